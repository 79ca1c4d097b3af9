/- The plain law of OwnersNearest: the rule without prefix in the directory of a path decides. -/
import Derived.Test.YtidkpnabdfiilaaGreatDoorQ21
import Derived.Test.YtidkpnabdfiilaaGreatDoorQ18
namespace Go.Proofs.YtidkpnabdfiilaaGreatDoor
open Go.RowKit

def preHd (rs : List ORule) : Option ByteArray := rs.head?.map (·.pre)
theorem modLast_hd {f : ORule → ORule} (hf : ∀ r, (f r).pre = r.pre) : ∀ rs : List ORule, preHd (modLast f rs) = preHd rs
  | [] => rfl
  | [x] => by simp [modLast, preHd, hf]
  | x :: y :: r => rfl
theorem app_hd {rs : List ORule} {x : ByteArray} (h : preHd rs = some x) (ss : List ORule) : preHd (rs ++ ss) = some x := by
  cases rs with
  | nil => cases h
  | cons r t => exact h
theorem readW_hd {p p' : Nat} {rs rs' : List ORule} {w x : ByteArray} (h : readW p rs w = some (p', rs')) (hx : preHd rs = some x) : preHd rs' = some x := by
  unfold readW at h
  repeat' split at h
  all_goals first
    | (cases h; done)
    | (cases h; exact app_hd hx _)
    | (cases h; exact hx)
    | (cases h; refine (modLast_hd ?_ rs).trans hx; intro r; rfl)
theorem readAll_hd : ∀ (ws : OWords) {p q : Nat} {rs rs' : List ORule} {x : ByteArray}, readAll p rs ws = .ok (q, rs') → preHd rs = some x → preHd rs' = some x
  | [], _, _, _, _, _, h, hx => by rw [readAll] at h; cases h; exact hx
  | w :: r, p, q, rs, rs', x, h, hx => by
    rw [readAll] at h
    cases hw : readW p rs w.1 with
    | none => rw [hw] at h; cases h
    | some y =>
      obtain ⟨p1, rs1⟩ := y
      rw [hw] at h
      exact readAll_hd r h (readW_hd hw hx)
def nearT (who : ByteArray) : ByteArray := ⟨#[97, 108, 108, 32, 103, 114, 111, 117, 112, 32]⟩ ++ who ++ ⟨#[32, 59]⟩
theorem nearT_data (who : ByteArray) : (nearT who).data.toList = 97 :: ([108, 108] ++ (32 :: ([103, 114, 111, 117, 112, 32] ++ who.data.toList ++ [32, 59]))) := by
  simp [nearT]
theorem nearT_size (who : ByteArray) : (nearT who).size = who.size + 12 := by
  rw [← sz, nearT_data]
  simp
theorem near_pre {who : ByteArray} {r : ORule} {i : Int} (h : oparse (nearT who) = ([r], i, 0)) : r.pre = ⟨#[]⟩ := by
  obtain ⟨rs, e, _, hr⟩ := oparse_okay (nearT who) (by rw [h])
  have e2 : [r] = rs := by rw [h] at e; exact congrArg Prod.fst e
  subst e2
  rw [wordsOf_tk, nearT_data, tk_word (c := 97) (a := [108, 108]) rfl (by decide) (by decide) (fun y t e => by cases e; rfl)] at hr
  rw [readAll] at hr
  have hw : readW 0 [] (⟨(97 :: [108, 108] : List UInt8).toArray⟩ : ByteArray) = some (2, [⟨⟨#[]⟩, []⟩]) := by rfl
  rw [hw] at hr
  have := readAll_hd _ hr (x := ⟨#[]⟩) rfl
  exact Option.some.inj this
def kL (p : ByteArray) : Nat := (lastSlS p + 1).toNat
def mineOf (p : ByteArray) : ByteArray := fileAt p (kL p)
def outF (m : ByteArray) (fs : List OFile) : List OFile := fs.filter fun f => !(f.path.data.toList == m.data.toList)
def withM (m d : ByteArray) (fs : List OFile) (k : Nat) : List OFile := (outF m fs).take k ++ ⟨m, d⟩ :: (outF m fs).drop k
theorem out_ne {m : ByteArray} {fs : List OFile} {f : OFile} (h : f ∈ outF m fs) : (f.path.data.toList == m.data.toList) = false := by
  have := (List.mem_filter.1 h).2
  simpa using this
theorem find_with (m d : ByteArray) (fs : List OFile) (k : Nat) : findF (withM m d fs k) m.data.toList = some ⟨m, d⟩ := by
  unfold findF withM
  rw [List.find?_append]
  have : ((outF m fs).take k).find? (fun f => f.path.data.toList == m.data.toList) = none := by
    rw [List.find?_eq_none]
    intro x hx
    rw [out_ne (List.mem_of_mem_take hx)]
    simp
  rw [this, List.find?_cons]
  simp
theorem dirEnds_head (p : ByteArray) : ∃ rest, dirEnds p.data.toList p.size = kL p :: rest := by
  rcases lastSlFrom_ge p.data.toList p.size with h | ⟨i, h⟩
  · refine ⟨[], ?_⟩
    rw [dirEnds_none h]
    have : kL p = 0 := by unfold kL lastSlS; omega
    rw [this]
  · refine ⟨dirEnds p.data.toList i, ?_⟩
    rw [(dirEnds_some h).2]
    have : kL p = i + 1 := by unfold kL lastSlS; omega
    rw [this]
theorem kL_up (p : ByteArray) : kL p = upF p.data.toList p.size := by
  obtain ⟨rest, h⟩ := dirEnds_head p
  rw [dirEnds_up] at h
  exact (List.cons.inj h).1.symm
theorem kL_le (p : ByteArray) : kL p ≤ p.size := by rw [kL_up]; exact upF_le _ _
theorem near_law {fs : List OFile} {p who : ByteArray} {r : ORule} {i : Int} {gs : List (List ByteArray)} {k : Nat} (h : oparse (nearT who) = ([r], i, 0)) (hg : groupsOf (withM (mineOf p) (nearT who) fs k) p = (gs, 0)) : gs = r.groups := by
  unfold groupsOf at hg
  split at hg
  · rename_i ht
    split at hg
    · have e : gs = ownersM (rulesM (withM (mineOf p) (nearT who) fs k)) p := (congrArg Prod.fst hg).symm
      rw [e, ownersM]
      obtain ⟨rest, hd⟩ := dirEnds_head p
      have hsl := upF_sl p.data.toList p.size
      rw [← kL_up] at hsl
      rw [hd, ownersFrom, rulesAt_find ht hsl (kL_le p)]
      have hf : findF (withM (mineOf p) (nearT who) fs k) (fileAt p (kL p)).data.toList = some ⟨mineOf p, nearT who⟩ := find_with (mineOf p) (nearT who) fs k
      rw [findB, findD, hf]
      simp only [Option.isSome_some, Bool.true_and, h, beq_self_eq_true, if_true]
      have hp := near_pre h
      have hfit : fit [r] (restAt p (kL p)).data.toList = some r := by
        unfold fit
        rw [fitFrom, fitFrom]
        have : fitsB (restAt p (kL p)).data.toList none r = true := by
          unfold fitsB preOf
          rw [hp]
          simp
        rw [this]; rfl
      rw [hfit]
    · cases congrArg Prod.snd hg
  · rename_i ht
    exact absurd (congrArg Prod.snd hg) ht
end Go.Proofs.YtidkpnabdfiilaaGreatDoor
