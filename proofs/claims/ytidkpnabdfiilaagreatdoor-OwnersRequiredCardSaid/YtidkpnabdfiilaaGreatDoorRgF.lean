/- The owners of a path by the file found at each directory, plainly. -/
import Derived.Test.YtidkpnabdfiilaaGreatDoorRgE
namespace Go.Proofs.YtidkpnabdfiilaaGreatDoor
open Go.RowKit

def lessF (f g : OFile) : Prop := Op.bytesLess f.path.data.toList g.path.data.toList = true
theorem tree_order : ∀ (l pre : List OFile), treeFrom pre l = 0 → (∀ g, pre.getLast? = some g → ∀ f ∈ l, lessF g f) ∧ l.Pairwise lessF
  | [], _, _ => ⟨fun _ _ _ hf => (nomatch hf), List.Pairwise.nil⟩
  | f :: r, pre, h => by
    rw [treeFrom] at h
    split at h
    · split at h
      · cases h
      · rename_i ho
        obtain ⟨i1, i2⟩ := tree_order r _ h
        have hr : ∀ g ∈ r, lessF f g := i1 f (by simp)
        refine ⟨fun g hg x hx => ?_, .cons hr i2⟩
        have hgf : lessF g f := by
          unfold orderBad at ho
          rw [hg] at ho
          simp only [leB_not, Bool.not_eq_true, Bool.not_eq_false'] at ho
          exact ho
        rcases List.mem_cons.1 hx with rfl | hx
        · exact hgf
        · exact less_trans hgf (hr x hx)
    · cases h
theorem lessF_ne {f g : OFile} (h : lessF f g) : f.path.data.toList ≠ g.path.data.toList := fun e => by
  unfold lessF at h; rw [e, less_irrefl] at h; cases h
theorem treeErr_from {fs : List OFile} (h : treeErr fs = 0) : treeFrom [] fs = 0 := by
  unfold treeErr at h
  split at h
  · cases h
  · split at h
    · assumption
    · exact h
theorem rules_skip : ∀ (l : List OFile) (m : ruleMap) (x : List UInt8), (∀ f ∈ l, f.path.data.toList ≠ x) → (l.foldl rulesStep m) x = m x
  | [], _, _, _ => rfl
  | f :: r, m, x, h => by
    rw [List.foldl_cons, rules_skip r _ x (fun g hg => h g (List.mem_cons_of_mem _ hg))]
    unfold rulesStep
    have : (x == f.path.data.toList) = false := by rw [beq_eq_false_iff_ne]; exact (h f (List.mem_cons_self ..)).symm
    rw [this, Bool.and_false]; rfl
theorem rules_find : ∀ (l : List OFile) (m : ruleMap) (x : List UInt8), l.Pairwise lessF → isOwn x = true → m x = none →
    (l.foldl rulesStep m) x = match findF l x with | none => none | some f => if ((oparse f.data).2.2 == 0) = true then some (oparse f.data).1 else none
  | [], _, _, _, _, h => h
  | f :: r, m, x, hp, ho, hm => by
    cases hp with
    | cons h1 h2 =>
    rw [List.foldl_cons, findF, List.find?_cons]
    cases he : (f.path.data.toList == x) with
    | true =>
      have e : f.path.data.toList = x := by simpa using he
      rw [rules_skip r _ x (fun g hg => by rw [← e]; exact (lessF_ne (h1 g hg)).symm)]
      unfold rulesStep
      rw [e, ho, Bool.true_and, beq_self_eq_true, Bool.and_true, hm]
    | false =>
      have hm' : rulesStep m f x = none := by
        unfold rulesStep
        have : (x == f.path.data.toList) = false := by
          rw [beq_eq_false_iff_ne] at he ⊢; exact fun h => he h.symm
        rw [this, Bool.and_false]; exact hm
      exact rules_find r _ x h2 ho hm'
theorem own_fileAt {p : ByteArray} {e : Nat} (h : e = 0 ∨ p.data.toList.getD (e - 1) 0 = 47) (hl : e ≤ p.size) : isOwn (fileAt p e).data.toList = true := by
  rw [fileAt, data_bOf]
  rcases h with rfl | h
  · rfl
  · cases e with
    | zero => rfl
    | succ e =>
      have hlt : e < p.data.toList.length := by rw [sz]; omega
      have h' : p.data.toList[e] = 47 := by
        rw [Nat.add_sub_cancel, List.getD_eq_getElem?_getD, List.getElem?_eq_getElem hlt] at h; exact h
      rw [List.take_succ_eq_append_getElem hlt, h', List.append_assoc]
      rw [isOwn, Bool.or_eq_true]
      right
      show sufOf wSlOwners (List.take e p.data.toList ++ wSlOwners) = true
      rw [sufOf, List.length_append, Nat.add_sub_cancel, List.drop_left]
      simp
theorem rulesAt_find {fs : List OFile} (ht : treeErr fs = 0) {p : ByteArray} {e : Nat} (h : e = 0 ∨ p.data.toList.getD (e - 1) 0 = 47) (hl : e ≤ p.size) :
    rulesAt (rulesM fs) p e = if (findB fs (fileAt p e).data.toList && (oparse (findD fs (fileAt p e).data.toList)).2.2 == 0) = true then (oparse (findD fs (fileAt p e).data.toList)).1 else [] := by
  rw [rulesAt, rulesM, rules_find fs _ _ (tree_order fs [] (treeErr_from ht)).2 (own_fileAt h hl) rfl, findB, findD]
  cases findF fs (fileAt p e).data.toList with
  | none => rfl
  | some f =>
    simp only [Option.isSome_some, Bool.true_and]
    split <;> rfl
/-! The directories, from the end of the path. -/
def dirsB (p : List UInt8) (k : Nat) : List Nat := if k = 0 then [] else dirEnds p (k - 1)
theorem dirsB_step (p : List UInt8) {k : Nat} (h : 0 < k) : dirsB p k = upF p (k - 1) :: dirsB p (upF p (k - 1)) := by
  rw [dirsB, if_neg (by omega), dirEnds_up]; rfl
theorem upF_take (p : List UInt8) : ∀ (n m : Nat), n ≤ m → upF (p.take m) n = upF p n
  | 0, _, _ => rfl
  | n + 1, m, h => by
    rw [upF, upF, upF_take p n m (by omega)]
    have : (p.take m).getD n 0 = p.getD n 0 := by
      rw [List.getD_eq_getElem?_getD, List.getD_eq_getElem?_getD, List.getElem?_take, if_pos (by omega)]
    rw [this]
theorem split_slash : ∀ l : List UInt8, ∃ q qs, split (l ++ [47]) = q :: (qs ++ [[]])
  | [] => ⟨[], [], rfl⟩
  | c :: r => by
    obtain ⟨q, qs, e⟩ := split_slash r
    rw [List.cons_append, split]
    split
    · exact ⟨[], q :: qs, by rw [e]; rfl⟩
    · rw [e]; exact ⟨c :: q, qs, rfl⟩
theorem path_end {p : ByteArray} (h : pathS p = true) : 0 < p.size ∧ dirEnds p.data.toList p.size = dirsB p.data.toList p.size := by
  have h0 : 0 < p.size := by
    refine Nat.pos_of_ne_zero fun e => ?_
    have : p.data.toList = [] := List.eq_nil_of_length_eq_zero (by rw [sz]; exact e)
    rw [pathS, this] at h; revert h; decide
  refine ⟨h0, ?_⟩
  rw [dirsB, if_neg (by omega)]
  obtain ⟨n, hn⟩ : ∃ n, p.size = n + 1 := ⟨p.size - 1, by omega⟩
  have hlt : n < p.data.toList.length := by rw [sz]; omega
  have hne : p.data.toList.getD n 0 ≠ 47 := fun e => by
    rw [List.getD_eq_getElem?_getD, List.getElem?_eq_getElem hlt] at e
    have e' : p.data.toList[n] = 47 := e
    have hl : p.data.toList = p.data.toList.take n ++ [47] := by
      rw [← e', ← List.take_succ_eq_append_getElem hlt, List.take_of_length_le (by rw [sz]; omega)]
    obtain ⟨q, qs, es⟩ := split_slash (p.data.toList.take n)
    rw [pathS, hl, pathB, es, Bool.and_eq_true, List.all_eq_true] at h
    have := h.2 [] (by simp)
    revert this; decide
  rw [hn, dirEnds, if_neg hne, Nat.add_sub_cancel]
theorem ownersM_find {fs : List OFile} (ht : treeErr fs = 0) {p : ByteArray} {k : Nat} (hk : 0 < k) (hl : k ≤ p.size) :
    ownersFrom (rulesM fs) p (dirsB p.data.toList k) = match fit (if (findB fs (fileAt p (upF p.data.toList (k - 1))).data.toList && (oparse (findD fs (fileAt p (upF p.data.toList (k - 1))).data.toList)).2.2 == 0) = true then (oparse (findD fs (fileAt p (upF p.data.toList (k - 1))).data.toList)).1 else []) (restAt p (upF p.data.toList (k - 1))).data.toList with
    | some r => r.groups
    | none => ownersFrom (rulesM fs) p (dirsB p.data.toList (upF p.data.toList (k - 1))) := by
  rw [dirsB_step _ hk, ownersFrom, rulesAt_find ht (upF_sl _ _) (by have := upF_le p.data.toList (k - 1); omega)]
  generalize fit _ _ = o
  cases o <;> rfl
theorem treeErr_one (p d : ByteArray) : treeErr [⟨p, d⟩] = if pathS p then 0 else 6 := by
  unfold treeErr
  rw [if_neg (by simp)]
  cases h : pathS p with
  | false => simp [treeFrom, h]
  | true =>
    have h1 : treeFrom [] [⟨p, d⟩] = 0 := by simp [treeFrom, h, orderBad]
    rw [h1, if_pos rfl]
    have h2 : someDir [⟨p, d⟩] [⟨p, d⟩] = false := by
      rw [someDir_below]
      simp [belowB]
    rw [h2]; rfl
end Go.Proofs.YtidkpnabdfiilaaGreatDoor
