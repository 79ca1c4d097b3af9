/- The groups that must approve a change, plainly; the text of a group is one-to-one on groups of persons. -/
import Derived.Test.YtidkpnabdfiilaaGreatDoorRiA
import Derived.Test.YtidkpnabdfiilaaGreatDoorRhC
import Derived.Test.YtidkpnabdfiilaaGreatDoorVvO
namespace Go.Proofs.YtidkpnabdfiilaaGreatDoor
open Go.RowKit

def addG (out : List (List ByteArray)) (g : List ByteArray) : List (List ByteArray) := if hasG out g then out else out ++ [g]
def addGs (out gs : List (List ByteArray)) : List (List ByteArray) := gs.foldl addG out
def reqFrom (m : ruleMap) (out : List (List ByteArray)) (ps : List ByteArray) : List (List ByteArray) := ps.foldl (fun o p => addGs o (ownersM m p)) out
def pathsC (old fresh : List OFile) : List ByteArray := (diffC old fresh).map (·.path)
def requiredOf (old fresh : List OFile) : List (List ByteArray) × Int :=
  if treeErr old = 0 then (if treeErr fresh = 0 then (reqFrom (rulesM old) [] (pathsC old fresh), 0) else ([], treeErr fresh)) else ([], treeErr old)
theorem addGs_at {out gs : List (List ByteArray)} {k : Nat} {g : List ByteArray} (h : gs[k]? = some g) : addGs out (gs.take (k + 1)) = addG (addGs out (gs.take k)) g := by
  rw [take_at h, addGs, addGs, List.foldl_append]; rfl
theorem reqFrom_at {m : ruleMap} {out : List (List ByteArray)} {ps : List ByteArray} {k : Nat} {p : ByteArray} (h : ps[k]? = some p) : reqFrom m out (ps.take (k + 1)) = addGs (reqFrom m out (ps.take k)) (ownersM m p) := by
  rw [take_at h, reqFrom, reqFrom, List.foldl_append]; rfl

/-! Groups of persons. -/
structure GoodGr (g : List ByteArray) : Prop where
  pos : 0 < g.length
  len : g.length ≤ 20
  each : ∀ s ∈ g, personB s.data.toList = true
def GoodM (m : ruleMap) : Prop := ∀ x rs, m x = some rs → ∀ r ∈ rs, GoodO r
theorem rulesM_good (fs : List OFile) : GoodM (rulesM fs) := by
  have key : ∀ (l : List OFile) (m : ruleMap), GoodM m → GoodM (l.foldl rulesStep m) := by
    intro l
    induction l with
    | nil => intro m hm; exact hm
    | cons f l ih =>
      intro m hm
      refine ih _ (fun x rs h => ?_)
      unfold rulesStep at h
      split at h
      · rename_i hc
        cases h
        simp only [Bool.and_eq_true, beq_iff_eq] at hc
        obtain ⟨rs, e, hk, _⟩ := oparse_okay f.data hc.1.2
        rw [e]
        exact (ocheck_ok hk).2
      · exact hm x rs h
  exact key fs _ (fun x rs h => by cases h)
theorem fitFrom_mem (rest : List UInt8) : ∀ (rs : List ORule) (best : Option ORule) (r : ORule), fitFrom rest best rs = some r → best = some r ∨ r ∈ rs
  | [], best, r, h => .inl h
  | x :: rs, best, r, h => by
    rw [fitFrom] at h
    rcases fitFrom_mem rest rs _ r h with h | h
    · split at h
      · cases h; exact .inr (List.mem_cons_self ..)
      · exact .inl h
    · exact .inr (List.mem_cons_of_mem _ h)
theorem fit_mem {rs : List ORule} {rest : List UInt8} {r : ORule} (h : fit rs rest = some r) : r ∈ rs := by
  rcases fitFrom_mem rest rs none r h with h | h
  · cases h
  · exact h
theorem ownersFrom_good {m : ruleMap} (hm : GoodM m) (p : ByteArray) : ∀ (es : List Nat) (g : List ByteArray), g ∈ ownersFrom m p es → GoodGr g
  | [], g, h => by cases h
  | e :: es, g, h => by
    rw [ownersFrom] at h
    split at h
    · rename_i r hr
      have hr := fit_mem hr
      unfold rulesAt at hr
      cases hq : m (fileAt p e).data.toList with
      | none => rw [hq] at hr; cases hr
      | some rs =>
        rw [hq] at hr
        have hg := (hm _ _ hq r hr).each g h
        exact ⟨hg.1, hg.2.1, hg.2.2⟩
    · exact ownersFrom_good hm p es g h
theorem ownersM_good {m : ruleMap} (hm : GoodM m) (p : ByteArray) : ∀ g ∈ ownersM m p, GoodGr g := fun g hg => ownersFrom_good hm p _ g hg
theorem addG_good {out : List (List ByteArray)} {g : List ByteArray} (ho : ∀ h ∈ out, GoodGr h) (hg : GoodGr g) : ∀ h ∈ addG out g, GoodGr h := by
  intro h hh
  unfold addG at hh
  split at hh
  · exact ho h hh
  · rcases List.mem_append.1 hh with hh | hh
    · exact ho h hh
    · rw [List.mem_singleton.1 hh]; exact hg
theorem addGs_good : ∀ {gs out : List (List ByteArray)}, (∀ h ∈ out, GoodGr h) → (∀ h ∈ gs, GoodGr h) → ∀ h ∈ addGs out gs, GoodGr h
  | [], _, ho, _ => ho
  | g :: gs, out, ho, hg => addGs_good (gs := gs) (out := addG out g) (addG_good ho (hg g (List.mem_cons_self ..))) (fun h hh => hg h (List.mem_cons_of_mem _ hh))
theorem reqFrom_good {m : ruleMap} (hm : GoodM m) : ∀ {ps : List ByteArray} {out : List (List ByteArray)}, (∀ h ∈ out, GoodGr h) → ∀ h ∈ reqFrom m out ps, GoodGr h
  | [], _, ho => ho
  | p :: ps, out, ho => reqFrom_good hm (ps := ps) (out := addGs out (ownersM m p)) (addGs_good ho (ownersM_good hm p))
theorem addG_len (out : List (List ByteArray)) (g : List ByteArray) : (addG out g).length ≤ out.length + 1 := by
  unfold addG; split <;> simp
theorem addGs_len : ∀ (gs out : List (List ByteArray)), (addGs out gs).length ≤ out.length + gs.length
  | [], _ => Nat.le_refl _
  | g :: gs, out => by
    have := addGs_len gs (addG out g)
    have h2 := addG_len out g
    show (addGs (addG out g) gs).length ≤ _
    simp only [List.length_cons]; omega
theorem ownersFrom_len {m : ruleMap} (hm : GoodM m) (p : ByteArray) : ∀ (es : List Nat), (ownersFrom m p es).length ≤ 8
  | [] => Nat.zero_le _
  | e :: es => by
    rw [ownersFrom]
    split
    · rename_i r hr
      have hr := fit_mem hr
      unfold rulesAt at hr
      cases hq : m (fileAt p e).data.toList with
      | none => rw [hq] at hr; cases hr
      | some rs =>
        rw [hq] at hr
        exact (hm _ _ hq r hr).len.2
    · exact ownersFrom_len hm p es
theorem ownersM_len {m : ruleMap} (hm : GoodM m) (p : ByteArray) : (ownersM m p).length ≤ 8 := ownersFrom_len hm p _
theorem reqFrom_len {m : ruleMap} (hm : GoodM m) : ∀ (ps : List ByteArray) (out : List (List ByteArray)), (reqFrom m out ps).length ≤ out.length + ps.length * 8
  | [], _ => Nat.le_refl _
  | p :: ps, out => by
    have h1 := reqFrom_len hm ps (addGs out (ownersM m p))
    have h2 := addGs_len (ownersM m p) out
    have h3 := ownersM_len hm p
    show (reqFrom m (addGs out (ownersM m p)) ps).length ≤ _
    simp only [List.length_cons]; omega

/-! Joined. -/
def joinL (g : List ByteArray) : List UInt8 := Lib.join (g.map (·.data.toList)) [32]
theorem cut_at : ∀ {x y r t : List UInt8}, (32 : UInt8) ∉ x → (32 : UInt8) ∉ y → (∀ c k, r = c :: k → c = 32) → (∀ c k, t = c :: k → c = 32) → x ++ r = y ++ t → x = y ∧ r = t
  | [], [], _, _, _, _, _, _, h => ⟨rfl, h⟩
  | [], c :: y, r, t, _, hy, hr, _, h => by
    have := hr c (y ++ t) h
    exact absurd (by rw [this]; exact List.mem_cons_self ..) hy
  | c :: x, [], r, t, hx, _, _, ht, h => by
    have := ht c (x ++ r) h.symm
    exact absurd (by rw [this]; exact List.mem_cons_self ..) hx
  | c :: x, d :: y, r, t, hx, hy, hr, ht, h => by
    rw [List.cons_append, List.cons_append] at h
    injection h with h1 h2
    obtain ⟨e1, e2⟩ := cut_at (fun k => hx (List.mem_cons_of_mem _ k)) (fun k => hy (List.mem_cons_of_mem _ k)) hr ht h2
    exact ⟨by rw [h1, e1], e2⟩
theorem blanks_head (l : List ByteArray) : ∀ c k, blanks l = c :: k → c = 32 := by
  intro c k h
  cases l with
  | nil => cases h
  | cons x l =>
    rw [blanks, List.map_cons, List.flatten_cons, List.cons_append] at h
    injection h with h1 h2
    exact h1.symm
theorem no_blank {s : ByteArray} (h : personB s.data.toList = true) : (32 : UInt8) ∉ s.data.toList := fun hm => by
  have := ((person_word h).1.2 32 hm).1
  cases this
theorem blanks_inj : ∀ {l k : List ByteArray}, (∀ s ∈ l, personB s.data.toList = true) → (∀ s ∈ k, personB s.data.toList = true) → blanks l = blanks k → l = k
  | [], [], _, _, _ => rfl
  | [], _ :: _, _, _, h => by simp [blanks] at h
  | _ :: _, [], _, _, h => by simp [blanks] at h
  | x :: l, y :: k, hl, hk, h => by
    have e : x.data.toList ++ blanks l = y.data.toList ++ blanks k := by
      rw [blanks, blanks, List.map_cons, List.map_cons, List.flatten_cons, List.flatten_cons, List.cons_append, List.cons_append] at h
      injection h
    obtain ⟨e1, e2⟩ := cut_at (no_blank (hl x (List.mem_cons_self ..))) (no_blank (hk y (List.mem_cons_self ..))) (blanks_head l) (blanks_head k) e
    rw [bytes_eq e1, blanks_inj (fun s hs => hl s (List.mem_cons_of_mem _ hs)) (fun s hs => hk s (List.mem_cons_of_mem _ hs)) e2]
theorem joinL_inj {g h : List ByteArray} (hg : GoodGr g) (hh : GoodGr h) (e : joinL g = joinL h) : g = h := by
  cases g with
  | nil => exact absurd hg.pos (by simp)
  | cons x l =>
    cases h with
    | nil => exact absurd hh.pos (by simp)
    | cons y k =>
      rw [joinL, joinL, join_blanks, join_blanks] at e
      obtain ⟨e1, e2⟩ := cut_at (no_blank (hg.each x (List.mem_cons_self ..))) (no_blank (hh.each y (List.mem_cons_self ..))) (blanks_head l) (blanks_head k) e
      rw [bytes_eq e1, blanks_inj (fun s hs => hg.each s (List.mem_cons_of_mem _ hs)) (fun s hs => hh.each s (List.mem_cons_of_mem _ hs)) e2]
theorem joinL_len {g : List ByteArray} (hg : GoodGr g) : (joinL g).length ≤ 600 := by
  cases g with
  | nil => exact absurd hg.pos (by simp)
  | cons x l =>
    rw [joinL, join_blanks, List.length_append]
    have h1 := (person_len (hg.each x (List.mem_cons_self ..))).2
    have h2 := blanks_len 24 (l := l) (fun s hs => (person_len (hg.each s (List.mem_cons_of_mem _ hs))).2)
    have h3 := hg.len
    simp only [List.length_cons] at h3
    have h4 : l.length * (24 + 1) ≤ 19 * 25 := Nat.mul_le_mul (by omega) (Nat.le_refl _)
    omega
def hasJ (out : List (List ByteArray)) (x : List UInt8) : Bool := out.any fun h => joinL h == x
theorem map_data_eq {a b : List ByteArray} (h : a.map (·.data.toList) = b.map (·.data.toList)) : a = b := map_data_inj h
theorem sameS_iff (a b : List ByteArray) : sameS a b = true ↔ a = b := by
  unfold sameS; rw [beq_iff_eq]; exact ⟨map_data_inj, fun h => by rw [h]⟩
theorem hasG_iff (gs : List (List ByteArray)) (g : List ByteArray) : hasG gs g = true ↔ g ∈ gs := by
  unfold hasG
  rw [List.any_eq_true]
  constructor
  · rintro ⟨h, hh, e⟩; rw [← (sameS_iff h g).1 e]; exact hh
  · intro h; exact ⟨g, h, (sameS_iff g g).2 rfl⟩
theorem hasJ_good {out : List (List ByteArray)} {g : List ByteArray} (ho : ∀ h ∈ out, GoodGr h) (hg : GoodGr g) : hasJ out (joinL g) = hasG out g := by
  rw [Bool.eq_iff_iff, hasG_iff]
  unfold hasJ
  rw [List.any_eq_true]
  constructor
  · rintro ⟨h, hh, e⟩; rw [← joinL_inj (ho h hh) hg (by simpa using e)]; exact hh
  · intro h; exact ⟨g, h, by simp⟩
def metJ (out : List (List ByteArray)) (x : List UInt8) : Option Value := if hasJ out x = true then some (.bool true) else none
theorem metJ_get {out : List (List ByteArray)} {g : List ByteArray} (ho : ∀ h ∈ out, GoodGr h) (hg : GoodGr g) : (metJ out (joinL g)).getD (.bool false) = .bool (hasG out g) := by
  unfold metJ
  rw [hasJ_good ho hg]
  cases hasG out g <;> rfl
theorem metJ_snoc (out : List (List ByteArray)) (g : List ByteArray) : (fun x => if x = joinL g then some (Value.bool true) else metJ out x) = metJ (out ++ [g]) := by
  funext x
  unfold metJ hasJ
  rw [List.any_append]
  by_cases e : x = joinL g
  · simp [e]
  · have : (joinL g == x) = false := by rw [beq_eq_false_iff_ne]; exact fun h => e h.symm
    simp [e, this]
end Go.Proofs.YtidkpnabdfiilaaGreatDoor
