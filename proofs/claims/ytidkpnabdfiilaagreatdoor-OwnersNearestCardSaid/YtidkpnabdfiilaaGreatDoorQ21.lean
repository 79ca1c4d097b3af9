/- The reference of chapter 54: up, fitting. The owners of a path by the file found at each directory, plainly. The reference's Parse: what it returns lies apart from older blocks. The reference of chapter 54: owned, Groups. -/
import Derived.Test.YtidkpnabdfiilaaGreatDoorQ20
import Derived.Test.YtidkpnabdfiilaaGreatDoorQ16
namespace Go.Proofs.YtidkpnabdfiilaaGreatDoor
open Go.RowKit Go.Shelf
attribute [local go_sem] Oper.semAt_some

theorem reads_noGroups (w : World) (X : List Nat) (a : Option Addr) : Reads w X (groupsT []) (.slice a 0 0) := by
  rw [groupsT, rowT, Reads]
  exact ⟨[], ⟨by simp, a, 0, rfl, Nat.le_refl _, Nat.zero_le _, fun h => absurd h (Nat.lt_irrefl _)⟩, fun h => absurd h (Nat.lt_irrefl _), by simp [ReadsL]⟩
theorem rup_any (s : ByteArray) (w : World) (h0 : 0 < s.size) (hs : s.size ≤ 40000) :
    Calls Tryz.prog 85 #[.string s] w fun e w' => e = .returned (.int .i64 (upF s.data.toList (s.size - 1))) ∧ w = w' := by
  have hwr : IntKind.i64.wrap ((s.size : Int) - 1) = ((s.size - 1 : Nat) : Int) := by simp [IntKind.wrap, IntKind.signed, IntKind.bits]; omega
  go_enter Tryz.func85, Tryz.ntmps85
  go_wp2
  go_loop [3] (fun i => ∃ k : Nat, k ≤ s.size - 1 ∧ i = .int .i64 k ∧ Hid (upF s.data.toList (s.size - 1) = upF s.data.toList k)) (fun i => (intOf i).toNat)
  case atStart => exact ⟨s.size - 1, Nat.le_refl _, rfl, rfl⟩
  case round =>
    obtain ⟨k, hk, rfl, HK⟩ := hrel
    cases k with
    | zero =>
      have H : Hid (upF s.data.toList (s.size - 1) = 0) := by show _ = _; rw [HK.out]; rfl
      go_wp2
      go_ret
      exact ⟨ret_int (by rw [H.out]; rfl), rfl⟩
    | succ k =>
      have hlt : k < s.size := by omega
      have hg := getD_at s k hlt
      have hi0 : (0 : Int) ≤ (k : Int) := by omega
      have hi1 : (k : Int) < (s.size : Int) := by omega
      have hd : decide (0 < ((k : Int) + 1)) = true := decide_eq_true (by omega)
      have hw1 : IntKind.i64.wrap ((k : Int) + 1 - 1) = (k : Int) := by rw [Int.add_sub_cancel]; exact IntWalk.i64_in _ (by omega)
      by_cases hc : s[k] = 47
      · have hb : ((s[k].toNat : Int) == 47) = true := by rw [byteb]; simp [hc]
        have H : Hid (upF s.data.toList (s.size - 1) = k + 1) := by show _ = _; rw [HK.out, upF, if_pos (by rw [hg, hc])]
        clear hg hc
        go_wp2
        go_ret
        exact ⟨ret_int (by rw [H.out]; omega), rfl⟩
      · have hb : ((s[k].toNat : Int) == 47) = false := by rw [byteb]; simp [hc]
        have H : Hid (upF s.data.toList (s.size - 1) = upF s.data.toList k) := by show _ = _; rw [HK.out, upF, if_neg (by rw [hg]; exact hc)]
        clear hg hc
        go_wp2
        go_round
        case rel => exact ⟨k, by omega, rfl, H⟩
        case measure => simp [intOf]
def fitG (o : Option ORule) : List (List ByteArray) := match o with | some r => r.groups | none => []
theorem fitsB_no {rest : List UInt8} {best : Option ORule} {r : ORule} (h : preOf r.pre.data.toList rest = false) : fitsB rest best r = false := by unfold fitsB; rw [h]; rfl
theorem fitsB_first {rest : List UInt8} {r : ORule} (h : preOf r.pre.data.toList rest = true) : fitsB rest none r = true := by rw [fitsB, h]; rfl
theorem fitsB_more {rest : List UInt8} {b r : ORule} (h : preOf r.pre.data.toList rest = true) : fitsB rest (some b) r = decide (b.pre.size < r.pre.size) := by rw [fitsB, h]; rfl
set_option maxHeartbeats 2000000 in
theorem rfitting_any {X : List Nat} (v : Value) (rs : List ORule) (rest : ByteArray) (w : World) (hv : Reads w X (rulesT rs) v) (hs : SmallR rs) :
    Calls Tryz.prog 88 #[v, .string rest] w fun e w' => ∃ gv, e = .returned (.tuple #[gv, .bool (fit rs rest.data.toList).isSome]) ∧ Reads w' X (groupsT (fitG (fit rs rest.data.toList))) gv ∧ Below w.heap.size w w' := by
  obtain ⟨a, cap, rfl, hc1, hc2⟩ := rules_val hv
  have HV := Lib.hid hv
  have HS := Lib.hid hs
  have hlen := hs.len
  clear hv hs
  go_enter Tryz.func88, Tryz.ntmps88
  go_wp2
  go_loop [7, 6] (fun i bv => ∃ (k : Nat) (best : Option ORule), k ≤ rs.length ∧ i = .int .i64 k ∧ BestIs rs best bv ∧ Hid (fit rs rest.data.toList = fitFrom rest.data.toList best (rs.drop k))) (fun i _ => rs.length - (intOf i).toNat)
  case atStart => exact ⟨0, none, Nat.zero_le _, rfl, .inl ⟨rfl, rfl⟩, rfl⟩
  case round =>
    obtain ⟨k, best, hk, rfl, hB, HE⟩ := hrel
    by_cases hlt : k < rs.length
    · obtain ⟨r, hrk⟩ : ∃ r, rs[k]? = some r := ⟨_, List.getElem?_eq_getElem hlt⟩
      have HE2 := Lib.hid (HE.out.trans (fitFrom_at hrk))
      have hsr := (HS.out.each r (List.mem_of_getElem? hrk)).1
      obtain ⟨b, o, ag, cg, rfl, hb, hcp, -, -, -, -⟩ := rules_elem HV.out hrk
      have hi0 : (0 : Int) ≤ (k : Int) := by omega
      have hi1 : (k : Int) < (rs.length : Int) := by omega
      have HRK := Lib.hid hrk
      clear HE hrk
      have HA : Hid (∀ best', (if fitsB rest.data.toList best r then some r else best) = best' → fit rs rest.data.toList = fitFrom rest.data.toList best' (rs.drop (k + 1))) := fun b' e => by rw [HE2.out, e]
      clear HE2
      by_cases h1 : r.pre.size ≤ rest.size
      · have hd1 : decide ((r.pre.size : Int) ≤ (rest.size : Int)) = true := decide_eq_true (by omega)
        have hz0 : (0 : Int) ≤ (r.pre.size : Int) := by omega
        have hz1 : (r.pre.size : Int) ≤ (rest.size : Int) := by omega
        have HPE : Hid (preOf r.pre.data.toList rest.data.toList = ((rest.extract 0 r.pre.size).toList == r.pre.toList)) := by
          show _ = _; rw [preOf, sz, sz, tl, tl, ex_take, decide_eq_true h1, Bool.true_and]
        cases he : ((rest.extract 0 r.pre.size).toList == r.pre.toList) with
        | false =>
          have HF := Lib.hid (HA.out best (by rw [fitsB_no (by rw [HPE.out, he])]; rfl))
          have HBI := Lib.hid hB
          rcases hB with ⟨-, rfl⟩ | ⟨j, rb, -, -, rfl⟩
          · go_wp2
            go_round
            case rel => exact ⟨k + 1, best, by omega, by go_num, HBI.out, HF⟩
            case measure => simp [intOf]; omega
          · go_wp2
            go_round
            case rel => exact ⟨k + 1, best, by omega, by go_num, HBI.out, HF⟩
            case measure => simp [intOf]; omega
        | true =>
          rcases hB with ⟨rfl, rfl⟩ | ⟨j, rb, rfl, hj, rfl⟩
          · have HF := Lib.hid (HA.out (some r) (by rw [fitsB_first (by rw [HPE.out, he])]; rfl))
            go_wp2
            go_round
            case rel => exact ⟨k + 1, some r, by omega, by go_num, .inr ⟨k, r, rfl, HRK.out, rfl⟩, HF⟩
            case measure => simp [intOf]; omega
          · obtain ⟨b', o', ag', cg', e', hb', hcp', -, -, -, -⟩ := rules_elem HV.out hj
            cases e'
            have hjl : j < rs.length := (List.getElem?_eq_some_iff.1 hj).1
            have hj0 : (0 : Int) ≤ (j : Int) := by omega
            have hj1 : (j : Int) < (rs.length : Int) := by omega
            have hdj : decide ((j : Int) < 0) = false := decide_eq_false (by omega)
            have hsb := (HS.out.each rb (List.mem_of_getElem? hj)).1
            have HJ := Lib.hid hj
            clear hj
            by_cases h2 : rb.pre.size < r.pre.size
            · have hd2 : decide ((rb.pre.size : Int) < (r.pre.size : Int)) = true := decide_eq_true (by omega)
              have HF := Lib.hid (HA.out (some r) (by rw [fitsB_more (by rw [HPE.out, he]), decide_eq_true h2]; rfl))
              go_wp2
              go_round
              case rel => exact ⟨k + 1, some r, by omega, by go_num, .inr ⟨k, r, rfl, HRK.out, rfl⟩, HF⟩
              case measure => simp [intOf]; omega
            · have hd2 : decide ((rb.pre.size : Int) < (r.pre.size : Int)) = false := decide_eq_false (by omega)
              have HF := Lib.hid (HA.out (some rb) (by rw [fitsB_more (by rw [HPE.out, he]), decide_eq_false h2]; rfl))
              go_wp2
              go_round
              case rel => exact ⟨k + 1, some rb, by omega, by go_num, .inr ⟨j, rb, rfl, HJ.out, rfl⟩, HF⟩
              case measure => simp [intOf]; omega
      · have hd1 : decide ((r.pre.size : Int) ≤ (rest.size : Int)) = false := decide_eq_false (by omega)
        have HF := Lib.hid (HA.out best (by rw [fitsB_no (by rw [preOf, sz, sz, decide_eq_false h1]; rfl)]; rfl))
        have HBI := Lib.hid hB
        rcases hB with ⟨-, rfl⟩ | ⟨j, rb, -, -, rfl⟩
        · go_wp2
          go_round
          case rel => exact ⟨k + 1, best, by omega, by go_num, HBI.out, HF⟩
          case measure => simp [intOf]; omega
        · go_wp2
          go_round
          case rel => exact ⟨k + 1, best, by omega, by go_num, HBI.out, HF⟩
          case measure => simp [intOf]; omega
    · have HF : Hid (fit rs rest.data.toList = best) := by show _ = _; rw [HE.out, List.drop_eq_nil_of_le (by omega)]; rfl
      rcases hB with ⟨rfl, rfl⟩ | ⟨j, rb, rfl, hj, rfl⟩
      · go_wp2
        go_ret2
        exact ⟨_, by rw [HF.out]; rfl, by rw [HF.out]; exact reads_noGroups _ _ _, qalloc _ _⟩
      · obtain ⟨b', o', ag', cg', rfl, hb', -, hcg', hg1, hg2, HG⟩ := rules_elem HV.out hj
        have hjl : j < rs.length := (List.getElem?_eq_some_iff.1 hj).1
        have hj0 : (0 : Int) ≤ (j : Int) := by omega
        have hj1 : (j : Int) < (rs.length : Int) := by omega
        have hdj : decide ((j : Int) < 0) = false := decide_eq_false (by omega)
        clear hj
        go_wp2
        go_ret2
        exact ⟨_, by rw [HF.out]; rfl, by rw [HF.out]; exact HG.out, qrefl _⟩
end Go.Proofs.YtidkpnabdfiilaaGreatDoor

namespace Go.Proofs.YtidkpnabdfiilaaGreatDoor
open Go.RowKit

def lessF (f g : OFile) : Prop := Op.bytesLess f.path.data.toList g.path.data.toList = true
theorem tree_order : ∀ (l pre : List OFile), treeFrom pre l = 0 → (∀ g, pre.getLast? = some g → ∀ f ∈ l, lessF g f) ∧ l.Pairwise lessF
  | [], _, _ => ⟨fun _ _ _ hf => (nomatch hf), List.Pairwise.nil⟩
  | f :: r, pre, h => by
    rw [treeFrom] at h
    split at h
    · split at h
      · cases h
      · rename_i ho
        obtain ⟨i1, i2⟩ := tree_order r _ h
        have hr : ∀ g ∈ r, lessF f g := i1 f (by simp)
        refine ⟨fun g hg x hx => ?_, .cons hr i2⟩
        have hgf : lessF g f := by
          unfold orderBad at ho
          rw [hg] at ho
          simp only [leB_not, Bool.not_eq_true, Bool.not_eq_false'] at ho
          exact ho
        rcases List.mem_cons.1 hx with rfl | hx
        · exact hgf
        · exact less_trans hgf (hr x hx)
    · cases h
theorem lessF_ne {f g : OFile} (h : lessF f g) : f.path.data.toList ≠ g.path.data.toList := fun e => by
  unfold lessF at h; rw [e, less_irrefl] at h; cases h
theorem treeErr_from {fs : List OFile} (h : treeErr fs = 0) : treeFrom [] fs = 0 := by
  unfold treeErr at h
  split at h
  · cases h
  · split at h
    · assumption
    · exact h
theorem rules_skip : ∀ (l : List OFile) (m : ruleMap) (x : List UInt8), (∀ f ∈ l, f.path.data.toList ≠ x) → (l.foldl rulesStep m) x = m x
  | [], _, _, _ => rfl
  | f :: r, m, x, h => by
    rw [List.foldl_cons, rules_skip r _ x (fun g hg => h g (List.mem_cons_of_mem _ hg))]
    unfold rulesStep
    have : (x == f.path.data.toList) = false := by rw [beq_eq_false_iff_ne]; exact (h f (List.mem_cons_self ..)).symm
    rw [this, Bool.and_false]; rfl
theorem rules_find : ∀ (l : List OFile) (m : ruleMap) (x : List UInt8), l.Pairwise lessF → isOwn x = true → m x = none →
    (l.foldl rulesStep m) x = match findF l x with | none => none | some f => if ((oparse f.data).2.2 == 0) = true then some (oparse f.data).1 else none
  | [], _, _, _, _, h => h
  | f :: r, m, x, hp, ho, hm => by
    cases hp with
    | cons h1 h2 =>
    rw [List.foldl_cons, findF, List.find?_cons]
    cases he : (f.path.data.toList == x) with
    | true =>
      have e : f.path.data.toList = x := by simpa using he
      rw [rules_skip r _ x (fun g hg => by rw [← e]; exact (lessF_ne (h1 g hg)).symm)]
      unfold rulesStep
      rw [e, ho, Bool.true_and, beq_self_eq_true, Bool.and_true, hm]
    | false =>
      have hm' : rulesStep m f x = none := by
        unfold rulesStep
        have : (x == f.path.data.toList) = false := by
          rw [beq_eq_false_iff_ne] at he ⊢; exact fun h => he h.symm
        rw [this, Bool.and_false]; exact hm
      exact rules_find r _ x h2 ho hm'
theorem own_fileAt {p : ByteArray} {e : Nat} (h : e = 0 ∨ p.data.toList.getD (e - 1) 0 = 47) (hl : e ≤ p.size) : isOwn (fileAt p e).data.toList = true := by
  rw [fileAt, data_bOf]
  rcases h with rfl | h
  · rfl
  · cases e with
    | zero => rfl
    | succ e =>
      have hlt : e < p.data.toList.length := by rw [sz]; omega
      have h' : p.data.toList[e] = 47 := by
        rw [Nat.add_sub_cancel, List.getD_eq_getElem?_getD, List.getElem?_eq_getElem hlt] at h; exact h
      rw [List.take_succ_eq_append_getElem hlt, h', List.append_assoc]
      rw [isOwn, Bool.or_eq_true]
      right
      show sufOf wSlOwners (List.take e p.data.toList ++ wSlOwners) = true
      rw [sufOf, List.length_append, Nat.add_sub_cancel, List.drop_left]
      simp
theorem rulesAt_find {fs : List OFile} (ht : treeErr fs = 0) {p : ByteArray} {e : Nat} (h : e = 0 ∨ p.data.toList.getD (e - 1) 0 = 47) (hl : e ≤ p.size) :
    rulesAt (rulesM fs) p e = if (findB fs (fileAt p e).data.toList && (oparse (findD fs (fileAt p e).data.toList)).2.2 == 0) = true then (oparse (findD fs (fileAt p e).data.toList)).1 else [] := by
  rw [rulesAt, rulesM, rules_find fs _ _ (tree_order fs [] (treeErr_from ht)).2 (own_fileAt h hl) rfl, findB, findD]
  cases findF fs (fileAt p e).data.toList with
  | none => rfl
  | some f =>
    simp only [Option.isSome_some, Bool.true_and]
    split <;> rfl
/-! The directories, from the end of the path. -/
def dirsB (p : List UInt8) (k : Nat) : List Nat := if k = 0 then [] else dirEnds p (k - 1)
theorem dirsB_step (p : List UInt8) {k : Nat} (h : 0 < k) : dirsB p k = upF p (k - 1) :: dirsB p (upF p (k - 1)) := by
  rw [dirsB, if_neg (by omega), dirEnds_up]; rfl
theorem upF_take (p : List UInt8) : ∀ (n m : Nat), n ≤ m → upF (p.take m) n = upF p n
  | 0, _, _ => rfl
  | n + 1, m, h => by
    rw [upF, upF, upF_take p n m (by omega)]
    have : (p.take m).getD n 0 = p.getD n 0 := by
      rw [List.getD_eq_getElem?_getD, List.getD_eq_getElem?_getD, List.getElem?_take, if_pos (by omega)]
    rw [this]
theorem split_slash : ∀ l : List UInt8, ∃ q qs, split (l ++ [47]) = q :: (qs ++ [[]])
  | [] => ⟨[], [], rfl⟩
  | c :: r => by
    obtain ⟨q, qs, e⟩ := split_slash r
    rw [List.cons_append, split]
    split
    · exact ⟨[], q :: qs, by rw [e]; rfl⟩
    · rw [e]; exact ⟨c :: q, qs, rfl⟩
theorem path_end {p : ByteArray} (h : pathS p = true) : 0 < p.size ∧ dirEnds p.data.toList p.size = dirsB p.data.toList p.size := by
  have h0 : 0 < p.size := by
    refine Nat.pos_of_ne_zero fun e => ?_
    have : p.data.toList = [] := List.eq_nil_of_length_eq_zero (by rw [sz]; exact e)
    rw [pathS, this] at h; revert h; decide
  refine ⟨h0, ?_⟩
  rw [dirsB, if_neg (by omega)]
  obtain ⟨n, hn⟩ : ∃ n, p.size = n + 1 := ⟨p.size - 1, by omega⟩
  have hlt : n < p.data.toList.length := by rw [sz]; omega
  have hne : p.data.toList.getD n 0 ≠ 47 := fun e => by
    rw [List.getD_eq_getElem?_getD, List.getElem?_eq_getElem hlt] at e
    have e' : p.data.toList[n] = 47 := e
    have hl : p.data.toList = p.data.toList.take n ++ [47] := by
      rw [← e', ← List.take_succ_eq_append_getElem hlt, List.take_of_length_le (by rw [sz]; omega)]
    obtain ⟨q, qs, es⟩ := split_slash (p.data.toList.take n)
    rw [pathS, hl, pathB, es, Bool.and_eq_true, List.all_eq_true] at h
    have := h.2 [] (by simp)
    revert this; decide
  rw [hn, dirEnds, if_neg hne, Nat.add_sub_cancel]
theorem ownersM_find {fs : List OFile} (ht : treeErr fs = 0) {p : ByteArray} {k : Nat} (hk : 0 < k) (hl : k ≤ p.size) :
    ownersFrom (rulesM fs) p (dirsB p.data.toList k) = match fit (if (findB fs (fileAt p (upF p.data.toList (k - 1))).data.toList && (oparse (findD fs (fileAt p (upF p.data.toList (k - 1))).data.toList)).2.2 == 0) = true then (oparse (findD fs (fileAt p (upF p.data.toList (k - 1))).data.toList)).1 else []) (restAt p (upF p.data.toList (k - 1))).data.toList with
    | some r => r.groups
    | none => ownersFrom (rulesM fs) p (dirsB p.data.toList (upF p.data.toList (k - 1))) := by
  rw [dirsB_step _ hk, ownersFrom, rulesAt_find ht (upF_sl _ _) (by have := upF_le p.data.toList (k - 1); omega)]
  generalize fit _ _ = o
  cases o <;> rfl
theorem treeErr_one (p d : ByteArray) : treeErr [⟨p, d⟩] = if pathS p then 0 else 6 := by
  unfold treeErr
  rw [if_neg (by simp)]
  cases h : pathS p with
  | false => simp [treeFrom, h]
  | true =>
    have h1 : treeFrom [] [⟨p, d⟩] = 0 := by simp [treeFrom, h, orderBad]
    rw [h1, if_pos rfl]
    have h2 : someDir [⟨p, d⟩] [⟨p, d⟩] = false := by
      rw [someDir_below]
      simp [belowB]
    rw [h2]; rfl
end Go.Proofs.YtidkpnabdfiilaaGreatDoor

namespace Go.Proofs.YtidkpnabdfiilaaGreatDoor
open Go.RowKit
theorem reads_noneX (w : World) (X : List Nat) (b : Nat) : Reads w X (rulesT []) (.slice (some ⟨b, 0, none⟩) 0 0) := by
  rw [rulesT, rowT, Reads]
  exact ⟨[], ⟨by simp, _, 0, rfl, Nat.le_refl _, Nat.zero_le _, fun h => absurd h (Nat.lt_irrefl _)⟩, fun h => absurd h (Nat.lt_irrefl _), by simp [ReadsL]⟩
set_option maxRecDepth 100000 in
set_option maxHeartbeats 2000000 in
theorem rParse_anyX (X : List Nat) (s : ByteArray) (hs : s.size ≤ 40000) (w : World) (hXw : ∀ k, k ∈ X → k < w.heap.size) : Calls Tryz.prog 87 #[.string s] w (ParsePostX X (oparse s) w) := by
  have HWS := Lib.hid (words_small s hs)
  have HO := Lib.hid (rparseW_oparse s)
  obtain ⟨ir0, hir, hzr0, hzr1, hzr2⟩ := info_parts infoRule
  go_enter Tryz.func87, Tryz.ntmps87
  go_wp2_with (fail)
  refine (rwords_any s hs _).mono ?_
  rintro e W0 ⟨v, rfl, hw, -, hb0⟩
  generalize wordsOf s = ws at *
  obtain ⟨a, cap, rfl, hc1, hc2⟩ := words_val hw
  have hlen := HWS.out.len
  have HW := Lib.hid hw
  clear hw
  go_wp2_with (fail)
  go_loopw [6, 7] (fun ov iv wr => ∃ (m f : Nat) (acc : List ORule), m ≤ ws.length ∧ iv = .int .i64 m ∧ ws.length ≤ m + f ∧ acc.length ≤ m ∧ Hid (OwnT wr X W0.heap.size 75 2 ruleT ov acc) ∧ Below W0.heap.size W0 wr ∧ Hid (∀ r ∈ acc, r.pre.size ≤ 40000 ∧ SmallG r.groups) ∧ Hid (oparse s = rparseW s f (ws.drop m) acc)) (fun _ iv _ => ws.length - (intOf iv).toNat)
  case atStart => exact ⟨0, ws.length, [], Nat.zero_le _, rfl, by omega, by simp, ⟨[], ⟨rfl, .inr ⟨W0.heap.size, 0, #[], rfl, Nat.le_refl _, World.alloc_heap_new _ _, Nat.le_refl _, Nat.zero_le _, rfl, rfl⟩⟩, by simp [ReadsL]⟩, qalloc _ _, fun r hr => by simp at hr, HO.out.symm⟩
  case round =>
    obtain ⟨m, f, acc, hm, rfl, hf, hacc, HOW, hbr, HSM, HP⟩ := hrel
    obtain ⟨oa, oc, rfl, ho1, ho2⟩ := HOW.out.val
    by_cases hml : m < ws.length
    · obtain ⟨f, rfl⟩ : ∃ f', f = f' + 1 := ⟨f - 1, by omega⟩
      have hX : ∀ k, k ∈ (Value.slice oa acc.length oc).ownBlock.toList ++ X → k < wr.heap.size := fun k hk => by
        rcases List.mem_append.1 hk with hk | hk
        · exact HOW.out.lt (by simpa using hk)
        · have h1 := hXw k hk; have h2 := hb0.size; have h3 := hbr.size; omega
      have HC := Lib.hid (rrule_any (.slice a ws.length cap) ws m wr _ hX (words_below HW.out hbr) HWS.out hml)
      obtain ⟨k, hk1, hk2, hk3, hk4⟩ := ruleW_suf (ws.drop m)
      rw [List.length_drop] at hk1
      rw [List.drop_drop] at hk2
      have hnx : ws.length - (ruleW (ws.drop m)).2.1.length = m + k := by rw [hk2, List.length_drop]; omega
      have HSR := Lib.hid (small_rule HWS.out hk4)
      have hpost : Hid (∀ e w', RulePost ws m ((Value.slice oa acc.length oc).ownBlock.toList ++ X) wr e w' → ∃ pv gv, (∃ ga gn gc, gv = .slice ga gn gc) ∧ e = .returned (.tuple #[.agg #[.string pv, gv], .int .i64 (m + k : Nat), .bool (ruleW (ws.drop m)).2.2]) ∧ ((ruleW (ws.drop m)).2.2 = true → pv = (ruleW (ws.drop m)).1.pre ∧ Reads w' ((Value.slice oa acc.length oc).ownBlock.toList ++ X) (groupsT (ruleW (ws.drop m)).1.groups) gv) ∧ Below wr.heap.size wr w') := fun e w' h => by
        obtain ⟨pv, gv, h0, h1, h2, h3⟩ := h
        rw [hnx] at h1
        exact ⟨pv, gv, h0, h1, h2, h3⟩
      have HK2 := Lib.hid hk2
      clear hX hnx hk4 hk2
      cases hok : (ruleW (ws.drop m)).2.2 with
      | true =>
        have hk1' := hk3 hok
        have HP2 : Hid (oparse s = rparseW s f (ws.drop (m + k)) (acc ++ [(ruleW (ws.drop m)).1])) := HP.out.trans (rparseW_at hml (Prod.ext rfl (Prod.ext HK2.out hok)))
        have HOK := Lib.hid hok
        rw [hok] at hpost
        generalize ruleW (ws.drop m) = rr at *
        obtain ⟨r, rest, ok⟩ := rr
        clear hok hk3 HK2 HP
        go_wp2_with (fail)
        refine HC.out.mono ?_
        intro e w1 hp
        obtain ⟨pv, gv, -, rfl, hp2, hb1⟩ := hpost.out e w1 hp
        obtain ⟨rfl, hrd⟩ := hp2 trivial
        obtain ⟨xs, hrow, hrl⟩ := (HOW.out.below hb1)
        obtain ⟨ga, gc, rfl, -, -⟩ := groups_val hrd
        have HRD := Lib.hid hrd
        have HRL := Lib.hid hrl
        clear hp hp2 hrd hrl HC hpost HOW
        have hbz := hbr.size
        have hbz1 := hb1.size
        go_wp2_with (at_builtin; refine wpList_append_own_at _ rfl _ _ 71 rfl W0.heap.size 75 ir0 _ 2 40 Tryz.underlying71 hir hzr0 hzr1 hzr2 rfl (by decide) _ _ _ rfl ((hrow.alloc _).alloc _) ⟨w1.heap.size + 1, 0, none⟩ 1 1 [.string r.pre, .slice ga r.groups.length gc] rfl rfl (cell_two' _ _ _ _ (by simp)) (by simp [Value.oneCell']) (by unfold maxLen; omega) (by omega) (by simp; omega) ?_)
        intro v' w3 hown3 hg3 _ hbk3
        have hA := qtrans (qalloc w1 (.cells #[.string r.pre, .slice ga r.groups.length gc] 75)) (qalloc _ (.cells #[.string r.pre, .slice ga r.groups.length gc] 75))
        have own3 : OwnT w3 X W0.heap.size 75 2 ruleT v' (acc ++ [r]) :=
          OwnT.grown ((hrow.alloc _).alloc _) (HRL.out.below hA) ((ReadsL.cons (Reads.leaf' _ _ _) (ReadsL.cons HRD.out (ReadsL.nil _ _))).below hA) hown3 hg3 (by simpa using hbk3)
        have hb3 : Below W0.heap.size W0 w3 := (qtrans (qtrans hbr hb1) hA).grown hg3 (by simp; omega) (fun k hk => owns_block hrow hk)
        have HOW3 := Lib.hid own3
        obtain ⟨va', vc', rfl⟩ := owns_val hown3
        clear hg3 hbk3 hown3 own3 hA hrow
        go_wp2
        go_roundw
        case rel => exact ⟨m + k, f, acc ++ [r], by omega, by go_num, by omega, by simp; omega, HOW3, hb3, fun r' hr' => by
          rcases List.mem_append.1 hr' with h | h
          · exact HSM.out r' h
          · rw [show r' = r by simpa using h]; exact HSR.out, HP2⟩
        case measure => simp [intOf]; omega
      | false =>
        rw [hok] at hpost
        have HR2 : Hid ((ruleW (ws.drop m)).2 = (ws.drop (m + k), false)) := Prod.ext HK2.out hok
        by_cases hmk : m + k < ws.length
        · obtain ⟨y, hy⟩ : ∃ y, ws[m + k]? = some y := ⟨_, List.getElem?_eq_getElem hmk⟩
          have hyk : (((m + k : Nat) : Int) == (ws.length : Int)) = false := by rw [beq_eq_false_iff_ne]; omega
          have hyk2 : (((m : Int) + (k : Int)) == (ws.length : Int)) = false := by rw [beq_eq_false_iff_ne]; omega
          have HP2 : Hid (oparse s = ([], (y.2 : Int), 3)) := HP.out.trans (rparseW_bad hml HR2.out hy)
          have HY := Lib.hid hy
          generalize ruleW (ws.drop m) = rr at *
          clear hok hk3 HK2 HP hy
          go_wp2_with (fail)
          refine HC.out.mono ?_
          intro e w1 hp
          obtain ⟨pv, gv, ⟨ga, gn, gc, rfl⟩, rfl, -, hb1⟩ := hpost.out e w1 hp
          clear hp HC hpost
          obtain ⟨b', o', e', hb', -, cy⟩ := words_elem (words_below HW.out (qtrans hbr hb1)) HY.out
          cases e'
          have hbz := hbr.size
          have hbz1 := hb1.size
          go_wp2
          go_region
          go_wp2
          go_ret3
          rw [HP2.out]
          exact ⟨_, rfl, reads_noneX _ _ _, (qtrans hb0 (qtrans hbr (qtrans hb1 (qtrans (qalloc _ _) (qalloc _ _))))).drew⟩
        · have hyk : (((m + k : Nat) : Int) == (ws.length : Int)) = true := by rw [beq_iff_eq]; omega
          have hyk2 : (((m : Int) + (k : Int)) == (ws.length : Int)) = true := by rw [beq_iff_eq]; omega
          have HP2 : Hid (oparse s = ([], (s.size : Int), 3)) := HP.out.trans (rparseW_short hml HR2.out hmk)
          generalize ruleW (ws.drop m) = rr at *
          clear hok hk3 HK2 HP
          go_wp2_with (fail)
          refine HC.out.mono ?_
          intro e w1 hp
          obtain ⟨pv, gv, ⟨ga, gn, gc, rfl⟩, rfl, -, hb1⟩ := hpost.out e w1 hp
          clear hp HC hpost
          go_wp2
          go_ret3
          rw [HP2.out]
          exact ⟨_, rfl, reads_noneX _ _ _, qtrans hb0 (qtrans hbr (qtrans hb1 (qtrans (qalloc _ _) (qalloc _ _))))⟩
    · have HPE := Lib.hid (HP.out.trans (rparseW_end hml))
      have HRA := Lib.hid HOW.out.reads0
      have HRX := Lib.hid (HOW.out.reads (fun b hb hc => by have h1 := HOW.out.ge hb; have h2 := hXw b hc; have h3 := hb0.size; omega))
      have HSR : Hid (SmallR acc) := ⟨by omega, HSM.out⟩
      clear HP
      generalize hq : ocheckErr acc = q at *
      have HQ := Lib.hid hq
      clear hq
      by_cases hq0 : q = 0
      · have hqn : (q != 0) = false := by simp [hq0]
        have HP2 : Hid (oparse s = (acc, 0, 0)) := by show _ = _; rw [HPE.out, if_pos hq0]
        go_wp2_with (go_at_call 130; refine (rCheck_any _ acc _ HRA.out HSR.out).mono ?_; rintro e w2 ⟨rfl, hb2⟩; rw [HQ.out])
        go_ret3
        rw [HP2.out]
        exact ⟨_, rfl, HRX.out.below hb2, qtrans hb0 (qtrans hbr hb2)⟩
      · have hqn : (q != 0) = true := by simp [hq0]
        have HP2 : Hid (oparse s = ([], 0, q)) := by show _ = _; rw [HPE.out, if_neg hq0]
        go_wp2_with (go_at_call 130; refine (rCheck_any _ acc _ HRA.out HSR.out).mono ?_; rintro e w2 ⟨rfl, hb2⟩; rw [HQ.out])
        go_ret3
        rw [HP2.out]
        exact ⟨_, rfl, reads_noneX _ _ _, qtrans hb0 (qtrans hbr (qtrans hb2 (qalloc _ _)))⟩
end Go.Proofs.YtidkpnabdfiilaaGreatDoor

namespace Go.Proofs.YtidkpnabdfiilaaGreatDoor
open Go.RowKit Go.Shelf
attribute [local go_sem] Oper.semAt_some

theorem extract_up (p : ByteArray) {k : Nat} (h0 : 0 < k) (hk : k ≤ p.size) : (p.extract 0 k).size = k ∧ upF (p.extract 0 k).data.toList ((p.extract 0 k).size - 1) = upF p.data.toList (k - 1) := by
  have hs : (p.extract 0 k).size = k := by rw [← sz, ex_take, List.length_take, sz]; omega
  refine ⟨hs, ?_⟩
  rw [hs, ex_take, upF_take _ _ _ (by omega)]
theorem findD_size {fs : List OFile} (hs : SmallF fs) (x : List UInt8) : (findD fs x).size ≤ 40000 := by
  unfold findD
  split
  · rename_i f hf
    exact (hs.each f (List.mem_of_find?_eq_some hf)).2
  · exact Nat.zero_le _
set_option maxRecDepth 100000 in
set_option maxHeartbeats 2000000 in
theorem rowned_anyX (X : List Nat) (v : Value) (fs : List OFile) (p : ByteArray) (w : World) (hXw : ∀ k, k ∈ X → k < w.heap.size) (hv : Reads w [] (filesT fs) v) (hs : SmallF fs) (ht : treeErr fs = 0) (hp : pathS p = true) (hps : p.size ≤ 30000) :
    Calls Tryz.prog 51 #[v, .string p] w fun e w' => ∃ gv, e = .returned gv ∧ Reads w' X (groupsT (ownersM (rulesM fs) p)) gv ∧ Below w.heap.size w w' := by
  obtain ⟨a, cap, rfl, hc1, hc2⟩ := files_val hv
  have HV := Lib.hid hv
  have HS := Lib.hid hs
  have HT := Lib.hid ht
  have HP := Lib.hid (path_end hp)
  clear hv hs ht hp
  go_enter Tryz.func51, Tryz.ntmps51
  go_wp2
  go_loopw [5] (fun i wr => ∃ k : Nat, k ≤ p.size ∧ i = .int .i64 k ∧ Below w.heap.size w wr ∧ Hid (ownersM (rulesM fs) p = ownersFrom (rulesM fs) p (dirsB p.data.toList k))) (fun i _ => (intOf i).toNat)
  case atStart => exact ⟨p.size, Nat.le_refl _, rfl, qrefl _, by show _ = _; rw [ownersM, HP.out.2]⟩
  case round =>
    obtain ⟨k, hk, rfl, hb, HE⟩ := hrel
    by_cases h0 : 0 < k
    · have HE2 := Lib.hid (HE.out.trans (ownersM_find HT.out h0 hk))
      obtain ⟨hxs, hxu⟩ := extract_up p h0 hk
      have hi0 : (0 : Int) ≤ (k : Int) := by omega
      have hi1 : (k : Int) ≤ (p.size : Int) := by omega
      have hd : decide (0 < (k : Int)) = true := decide_eq_true (by omega)
      have HU := Lib.hid (fun w => rup_any (p.extract 0 k) w (by omega) (by omega))
      rw [hxu] at HU
      have hul := upF_le p.data.toList (k - 1)
      have HFE := Lib.hid (fileAt_eq p (upF p.data.toList (k - 1)))
      have HRE := Lib.hid (restAt_eq p (upF p.data.toList (k - 1)))
      clear HE hxu
      generalize upF p.data.toList (k - 1) = u at *
      have hu0 : (0 : Int) ≤ (u : Int) := by omega
      have hu1 : (u : Int) ≤ (p.size : Int) := by omega
      have hcs : ¬ (9223372036854775807 < (p.extract 0 u).size + 6) := by
        have : (p.extract 0 u).size ≤ p.size := by rw [← sz, ← sz, ex_take, List.length_take]; omega
        omega
      go_wp2_with (fail)
      refine (HU.out _).mono ?_
      rintro e w1 ⟨rfl, rfl⟩
      go_wp2_with (fail)
      rw [← HFE.out]
      have HFI := Lib.hid (r9Find_any _ fs (fileAt p u) wr (HV.out.below hb))
      refine HFI.out.mono ?_
      rintro e w1 ⟨rfl, rfl⟩
      have hds := findD_size HS.out (fileAt p u).data.toList
      generalize findD fs (fileAt p u).data.toList = dat at *
      go_wp2_with (fail)
      have HPA := Lib.hid (rParse_anyX X dat (by omega) w1 (fun k hk => by have h1 := hXw k hk; have h2 := hb.size; omega))
      refine HPA.out.mono ?_
      rintro e w2 ⟨lv, rfl, hlv, hb2⟩
      have HSR := Lib.hid (oparse_small (s := dat) (by omega))
      generalize oparse dat = O at *
      obtain ⟨a2, cap2, rfl, l2, m2⟩ := rules_val hlv
      have HLV := Lib.hid hlv
      have hbw : Below w.heap.size w w2 := qtrans hb hb2
      clear hlv hb hb2 HPA HFI HU
      cases hth : findB fs (fileAt p u).data.toList with
      | false =>
        have HF : Hid (ownersM (rulesM fs) p = ownersFrom (rulesM fs) p (dirsB p.data.toList u)) := by show _ = _; rw [HE2.out, hth]; rfl
        go_wp2
        go_roundw
        case rel => exact ⟨u, by omega, rfl, hbw, HF⟩
        case measure => simp [intOf]; omega
      | true =>
        cases hok : (O.2.2 == 0) with
        | false =>
          have HF : Hid (ownersM (rulesM fs) p = ownersFrom (rulesM fs) p (dirsB p.data.toList u)) := by show _ = _; rw [HE2.out, hth, hok]; rfl
          go_wp2
          go_roundw
          case rel => exact ⟨u, by omega, rfl, hbw, HF⟩
          case measure => simp [intOf]; omega
        | true =>
          have HF : Hid (ownersM (rulesM fs) p = match fit O.1 (restAt p u).data.toList with | some r => r.groups | none => ownersFrom (rulesM fs) p (dirsB p.data.toList u)) := by
            show _ = _; rw [HE2.out, hth, hok, if_pos (by rfl)]
            all_goals (generalize fit O.1 (restAt p u).data.toList = o; cases o <;> rfl)
          go_wp2_with (fail)
          rw [← HRE.out]
          refine (rfitting_any _ O.1 (restAt p u) _ HLV.out HSR.out).mono ?_
          rintro e w3 ⟨gv, rfl, hgv, hb3⟩
          generalize fit O.1 (restAt p u).data.toList = ft at *
          have hbx := qtrans hbw hb3
          cases ft with
          | none =>
            go_wp2
            go_roundw
            case rel => exact ⟨u, by omega, rfl, hbx, HF⟩
            case measure => simp [intOf]; omega
          | some r =>
            obtain ⟨ag, cg, rfl, -, -⟩ := groups_val hgv
            go_wp2
            go_ret
            exact ⟨_, rfl, by rw [HF.out]; exact hgv, hbx⟩
    · have hk0 : k = 0 := by omega
      subst hk0
      have HF : Hid (ownersM (rulesM fs) p = []) := by show _ = _; rw [HE.out]; rfl
      go_wp2
      go_ret
      exact ⟨_, rfl, by rw [HF.out]; exact reads_noGroups _ _ _, qtrans hb (qalloc _ _)⟩
theorem rowned_any (v : Value) (fs : List OFile) (p : ByteArray) (w : World) (hv : Reads w [] (filesT fs) v) (hs : SmallF fs) (ht : treeErr fs = 0) (hp : pathS p = true) (hps : p.size ≤ 30000) :
    Calls Tryz.prog 51 #[v, .string p] w fun e w' => ∃ gv, e = .returned gv ∧ Reads w' [] (groupsT (ownersM (rulesM fs) p)) gv ∧ Below w.heap.size w w' := rowned_anyX [] v fs p w (fun _ h => by cases h) hv hs ht hp hps
theorem rGroups_any (v : Value) (fs : List OFile) (p : ByteArray) (w : World) (hv : Reads w [] (filesT fs) v) (hs : SmallF fs) (hdt : ∀ f ∈ fs, f.data.size ≤ 16000) (hps : p.size ≤ 30000) :
    Calls Tryz.prog 33 #[v, .string p] w (GroupsPost (groupsOf fs p) w) := by
  have HV := Lib.hid hv
  have HC := Lib.hid (r9Check_any v fs w hv hs hdt)
  have HS := Lib.hid hs
  have HG : Hid (groupsOf fs p = if treeErr fs = 0 then (if pathS p then (ownersM (rulesM fs) p, 0) else ([], 6)) else ([], treeErr fs)) := by
    show _ = _
    rw [groupsOf, treeErr_one]
    cases pathS p <;> rfl
  obtain ⟨a, cap, rfl, hc1, hc2⟩ := files_val hv
  clear hv hs hdt
  go_enter Tryz.func33, Tryz.ntmps33
  go_wp2_with (fail)
  refine HC.out.mono ?_
  rintro e w1 ⟨rfl, hb⟩
  cases hte : (treeErr fs == 0) with
  | false =>
    have hne : treeErr fs ≠ 0 := by simpa using hte
    have H : Hid (groupsOf fs p = ([], treeErr fs)) := by show _ = _; rw [HG.out, if_neg hne]
    generalize treeErr fs = E at *
    clear hne HG HC
    go_wp2
    go_ret2
    exact ⟨_, (by rw [H.out] <;> rfl), by rw [H.out]; exact reads_noGroups _ _ _, qtrans hb (qalloc _ _)⟩
  | true =>
    have he : treeErr fs = 0 := by simpa using hte
    have HTE := Lib.hid he
    rw [he]
    clear hte he
    go_wp2_with (fail)
    refine (r9Path_any p _ (by omega)).mono ?_
    rintro e w2 ⟨rfl, n2, rfl⟩
    have hb2 := below_drewN hb n2
    have HV2 := Lib.hid ((HV.out.below hb).drewN n2)
    clear hb HC
    generalize w1.drewN n2 = W at *
    cases hpp : pathS p with
    | false =>
      have H : Hid (groupsOf fs p = ([], 6)) := by show _ = _; rw [HG.out, if_pos HTE.out, hpp]; rfl
      go_wp2
      go_ret2
      exact ⟨_, (by rw [H.out] <;> rfl), by rw [H.out]; exact reads_noGroups _ _ _, qtrans hb2 (qalloc _ _)⟩
    | true =>
      have H : Hid (groupsOf fs p = (ownersM (rulesM fs) p, 0)) := by show _ = _; rw [HG.out, if_pos HTE.out, hpp]; rfl
      go_wp2_with (fail)
      refine (rowned_any _ fs p _ HV2.out HS.out HTE.out hpp hps).mono ?_
      rintro e w3 ⟨gv, rfl, hgv, hb3⟩
      obtain ⟨ag, cg, rfl, -, -⟩ := groups_val hgv
      go_wp2
      go_ret2
      exact ⟨_, (by rw [H.out] <;> rfl), by rw [H.out]; exact hgv, qtrans hb2 hb3⟩
end Go.Proofs.YtidkpnabdfiilaaGreatDoor
