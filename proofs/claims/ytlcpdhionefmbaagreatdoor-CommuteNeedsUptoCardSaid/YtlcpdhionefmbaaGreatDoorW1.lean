/- Plain: what the search for needed edits meets. The reference's check of chapter 35. The reference's needed of chapter 35. The reference's Needs; Pick both. -/
import Derived.Test.YtlcpdhionefmbaaGreatDoorT8
import Derived.Test.YtlcpdhionefmbaaGreatDoorV2
namespace Go.Proofs.YtlcpdhionefmbaaGreatDoor
open Go.RowKit

/-- The edit k is needed, over some others, by the edit i. -/
inductive Reach (l : List OEdit) (i : Nat) : Nat → Prop
  | one {k : Nat} : k < i → dep l k i = true → Reach l i k
  | more {k m : Nat} : k < m → dep l k m = true → Reach l i m → Reach l i k
theorem Reach.lt {l : List OEdit} {i k : Nat} (h : Reach l i k) : k < i := by
  induction h with
  | one h _ => exact h
  | more h _ _ ih => omega
theorem Reach.trans {l : List OEdit} {i q k : Nat} (h : Reach l q k) (g : Reach l i q) : Reach l i k := by
  induction h with
  | one h1 h2 => exact .more h1 h2 g
  | more h1 h2 _ ih => exact .more h1 h2 ih
theorem Reach.step {l : List OEdit} {i k : Nat} : Reach l i k ↔ k < i ∧ (dep l k i = true ∨ ∃ m, k < m ∧ m < i ∧ Reach l i m ∧ dep l k m = true) := by
  constructor
  · intro h
    have hl := h.lt
    cases h with
    | one h1 h2 => exact ⟨h1, .inl h2⟩
    | more h1 h2 h3 => exact ⟨hl, .inr ⟨_, h1, h3.lt, h3, h2⟩⟩
  · rintro ⟨h, h1 | ⟨m, h2, h3, h4, h5⟩⟩
    · exact .one h h1
    · exact .more h2 h5 h4
def metB (m : List Bool) (k : Nat) : Prop := m.getD k false = true
def Closed (l : List OEdit) (b : Nat) (m : List Bool) : Prop := ∀ j, j < b → metB m j → ∀ k, k < j → dep l k j = true → metB m k
theorem metB_set {m : List Bool} {i : Nat} (h : i < m.length) (k : Nat) : metB (m.set i true) k ↔ k = i ∨ metB m k := by
  unfold metB
  rw [List.getD_eq_getElem?_getD, List.getD_eq_getElem?_getD, List.getElem?_set]
  by_cases hk : i = k
  · subst hk; simp [h]
  · rw [if_neg hk]
    constructor
    · intro h; exact .inr h
    · rintro (h | h)
      · exact absurd h.symm hk
      · exact h
structure Found (l : List OEdit) (b i : Nat) (m r : List Bool) : Prop where
  len : r.length = m.length
  mono : ∀ k, metB m k → metB r k
  closed : Closed l b r
  high : ∀ k, i ≤ k → (metB r k ↔ metB m k)
  new : ∀ k, metB r k → metB m k ∨ Reach l i k
theorem scan_found (l : List OEdit) (vis : Nat → List Bool → List Bool) (i : Nat)
    (hv : ∀ q m, q < i → q < m.length → Closed l q m → (vis q m).length = m.length ∧ (∀ k, metB m k → metB (vis q m) k) ∧ metB (vis q m) q ∧ Closed l (q + 1) (vis q m) ∧ (∀ k, q < k → (metB (vis q m) k ↔ metB m k)) ∧ ∀ k, metB (vis q m) k → metB m k ∨ k = q ∨ Reach l q k) :
    ∀ q m, q ≤ i → i < m.length → Closed l i m → (∀ k, q ≤ k → k < i → dep l k i = true → metB m k) →
      Found l i i m (scanV l vis i q m) ∧ ∀ k, k < i → dep l k i = true → metB (scanV l vis i q m) k
  | 0, m, _, _, hc, hd => ⟨⟨rfl, fun _ h => h, hc, fun _ _ => Iff.rfl, fun _ h => .inl h⟩, fun k hk hdp => hd k (Nat.zero_le _) hk hdp⟩
  | q + 1, m, hq, hi, hc, hd => by
    rw [scanV]
    cases hz : (!(m.getD q false) && dep l q i) with
    | false =>
      rw [if_neg (by simp)]
      refine scan_found l vis i hv q m (by omega) hi hc (fun k h1 h2 h3 => ?_)
      rcases Nat.lt_or_ge q k with h | h
      · exact hd k h h2 h3
      · obtain rfl : k = q := by omega
        unfold metB
        cases hm : m.getD k false with
        | true => rfl
        | false => rw [hm, h3] at hz; cases hz
    | true =>
      rw [if_pos rfl]
      rw [Bool.and_eq_true] at hz
      obtain ⟨v1, v2, v3, v4, v5, v6⟩ := hv q m (by omega) (by omega) (fun j hj => hc j (by omega))
      have hcl : Closed l i (vis q m) := by
        intro j hj hm k hk hdp
        rcases Nat.lt_or_ge q j with h | h
        · exact v2 k (hc j hj ((v5 j h).1 hm) k hk hdp)
        · exact v4 j (by omega) hm k hk hdp
      obtain ⟨F, G⟩ := scan_found l vis i hv q (vis q m) (by omega) (by omega) hcl (fun k h1 h2 h3 => by
        rcases Nat.lt_or_ge q k with h | h
        · exact v2 k (hd k h h2 h3)
        · obtain rfl : k = q := by omega
          exact v3)
      have hr : Reach l i q := .one (by omega) hz.2
      refine ⟨⟨by rw [F.len, v1], fun k h => F.mono k (v2 k h), F.closed, fun k hk => (F.high k hk).trans (v5 k (by omega)), fun k h => ?_⟩, G⟩
      rcases F.new k h with h | h
      · rcases v6 k h with h | rfl | h
        · exact .inl h
        · exact .inr hr
        · exact .inr (h.trans hr)
      · exact .inr h
theorem visit_found (l : List OEdit) : ∀ (f i : Nat) (m : List Bool), i < f → i < m.length → Closed l i m →
    (visitG l f i m).length = m.length ∧ (∀ k, metB m k → metB (visitG l f i m) k) ∧ metB (visitG l f i m) i ∧ Closed l (i + 1) (visitG l f i m) ∧ (∀ k, i < k → (metB (visitG l f i m) k ↔ metB m k)) ∧ ∀ k, metB (visitG l f i m) k → metB m k ∨ k = i ∨ Reach l i k
  | 0, i, m, h, _, _ => by omega
  | f + 1, i, m, h, hi, hc => by
    rw [visitG]
    have hi' : i < (m.set i true).length := by rw [List.length_set]; exact hi
    have hc' : Closed l i (m.set i true) := by
      intro j hj hm k hk hd
      rcases (metB_set hi j).1 hm with rfl | h1
      · omega
      · exact (metB_set hi k).2 (.inr (hc j hj h1 k hk hd))
    obtain ⟨F, G⟩ := scan_found l (visitG l f) i (fun q m hq hm hcl => visit_found l f q m (by omega) hm hcl) i (m.set i true) (Nat.le_refl _) hi' hc' (fun k h1 h2 _ => by omega)
    have hii : metB (scanV l (visitG l f) i i (m.set i true)) i := F.mono i ((metB_set hi i).2 (.inl rfl))
    refine ⟨by rw [F.len, List.length_set], fun k hk => F.mono k ((metB_set hi k).2 (.inr hk)), hii, ?_, ?_, ?_⟩
    · intro j hj hm k hk hd
      rcases Nat.lt_or_ge j i with h1 | h1
      · exact F.closed j h1 hm k hk hd
      · obtain rfl : j = i := by omega
        exact G k hk hd
    · intro k hk
      rw [F.high k (by omega), metB_set hi k]
      constructor
      · rintro (h1 | h1)
        · omega
        · exact h1
      · exact .inr
    · intro k hk
      rcases F.new k hk with h1 | h1
      · rcases (metB_set hi k).1 h1 with h2 | h2
        · exact .inr (.inl h2)
        · exact .inl h2
      · exact .inr (.inr h1)
theorem metB_none (n k : Nat) : ¬ metB (List.replicate n false) k := by
  unfold metB
  rw [List.getD_eq_getElem?_getD, List.getElem?_replicate]
  split <;> simp
/-- What is met: the edit itself and those that it needs. -/
theorem needB_iff {l : List OEdit} {i : Nat} (hi : i < l.length) (k : Nat) : (needB l i).getD k false = true ↔ k = i ∨ Reach l i k := by
  obtain ⟨h1, h2, h3, h4, h5, h6⟩ := visit_found l l.length i (List.replicate l.length false) hi (by simpa using hi) (fun j _ hm => absurd hm (metB_none _ _))
  constructor
  · intro h
    rcases h6 k h with h | h | h
    · exact absurd h (metB_none _ _)
    · exact .inl h
    · exact .inr h
  · rintro (rfl | h)
    · exact h3
    · induction h with
      | one g1 g2 => exact h4 i (by omega) h3 _ g1 g2
      | more g1 g2 g3 ih => exact h4 _ (by have := g3.lt; omega) ih _ g1 g2
end Go.Proofs.YtlcpdhionefmbaaGreatDoor

namespace Go.Proofs.YtlcpdhionefmbaaGreatDoor
open Go.RowKit Go.Shelf
attribute [local go_sem] Oper.semAt_some

set_option maxRecDepth 100000 in
set_option maxHeartbeats 4000000 in
theorem r35Check_any (l : List OEdit) (a : Option Addr) (c : Nat) (i : Int) (w : World) (hl : Reads w [] (editsT l) (.slice a l.length c)) (hs : ∀ e ∈ l, SmE e) (hn : l.length ≤ 1000000) :
    Calls Tryz.prog 33 #[.slice a l.length c, .int .i64 i] w fun r w' => r = .returned (.int .i64 (checkErr l i)) ∧ Below w.heap.size w w' := by
  have HL := Lib.hid hl
  have HS := Lib.hid hs
  have hp : checkErr l i = if listErr l = 0 then (if i < 0 ∨ (l.length : Int) ≤ i then 2 else 0) else listErr l := rfl
  have HP := Lib.hid hp
  have HE : Hid (listErr l = nzFrom (fun k => editErr (eAt l k)) l.length 0) := rfl
  clear hl hs hp
  generalize hf : (fun k => editErr (eAt l k)) = f at *
  have HFF : Hid (∀ k, f k = editErr (eAt l k)) := fun k => by rw [← hf]
  clear hf
  generalize checkErr l i = T at *
  generalize listErr l = q0 at *
  go_enter Tryz.func33, Tryz.ntmps33
  go_wp2
  go_loopw [5] (fun iv wr => ∃ k : Nat, k ≤ l.length ∧ iv = .int .i64 k ∧ Hid (q0 = nzFrom f l.length k) ∧ Below w.heap.size w wr) (fun iv _ => l.length - (intOf iv).toNat)
  case atStart => exact ⟨0, Nat.zero_le _, rfl, HE, qrefl _⟩
  case round =>
    obtain ⟨k, hkl, rfl, HI, hb⟩ := hrel
    by_cases hi : k < l.length
    · have hd : decide ((k : Int) < (l.length : Int)) = true := decide_eq_true (by omega)
      have hir : (k : Int) < (l.length : Int) := by omega
      obtain ⟨e, he⟩ : ∃ e, l[k]? = some e := ⟨_, List.getElem?_eq_getElem hi⟩
      obtain ⟨b, o, ao, co, af, cf, rfl, hbl, x0, x1, x2, x3, x4, hin⟩ := cells_edit (HL.out.below hb) he
      have HN := Lib.hid (HI.out.trans (nzFrom_at f hi))
      have hfk : f k = editErr e := by rw [HFF.out, eAt_of he]
      rw [hfk] at HN
      have HC := Lib.hid (r34Check_any e ao co af cf wr hin.out (HS.out e (List.mem_of_getElem? he)))
      clear HI hfk hin he
      unfold editV at HC
      generalize editErr e = q at *
      go_wp2_with (fail)
      refine HC.out.mono ?_
      rintro r w4 ⟨rfl, hb4⟩
      have hB4 := hb.trans (hb4.mono hb.size)
      clear HC
      by_cases hq : q = 0
      · rw [if_pos hq] at HN
        have q3 : (q != 0) = false := by rw [hq]; rfl
        clear hq
        go_wp2
        go_roundw
        case rel => exact ⟨k + 1, by omega, by go_num, HN, hB4⟩
        case measure => simp [intOf]; omega
      · rw [if_neg hq] at HN
        have q3 : (q != 0) = true := by simp [hq]
        have HQ : Hid (q = T) := by show _ = _; rw [HP.out, HN.out, if_neg hq]
        clear hq
        go_wp2
        go_ret
        exact ⟨ret_int HQ.out, hB4⟩
    · have hd : decide ((k : Int) < (l.length : Int)) = false := decide_eq_false (by omega)
      have HN := Lib.hid (HI.out.trans (nzFrom_end f (by omega)))
      by_cases h0 : i < 0
      · have q1 : decide (i < 0) = true := decide_eq_true h0
        have HQ : Hid (2 = T) := by show _ = _; rw [HP.out, if_pos HN.out, if_pos (.inl h0)]
        clear h0
        go_wp2
        go_ret
        exact ⟨ret_int HQ.out, hb⟩
      have q1 : decide (i < 0) = false := decide_eq_false h0
      by_cases h1 : (l.length : Int) ≤ i
      · have q2 : decide ((l.length : Int) ≤ i) = true := decide_eq_true h1
        have HQ : Hid (2 = T) := by show _ = _; rw [HP.out, if_pos HN.out, if_pos (.inr h1)]
        clear h0 h1
        go_wp2
        go_ret
        exact ⟨ret_int HQ.out, hb⟩
      · have q2 : decide ((l.length : Int) ≤ i) = false := decide_eq_false h1
        have HQ : Hid (0 = T) := by show _ = _; rw [HP.out, if_pos HN.out, if_neg (fun h => h.elim h0 h1)]
        clear h0 h1
        go_wp2
        go_ret
        exact ⟨ret_int HQ.out, hb⟩
end Go.Proofs.YtlcpdhionefmbaaGreatDoor

namespace Go.Proofs.YtlcpdhionefmbaaGreatDoor
open Go.RowKit Go.Shelf
attribute [local go_sem] Oper.semAt_some

theorem metC_setb (m : List Bool) (i : Nat) (b : Bool) : (metC m).setIfInBounds i (.bool b) = metC (m.set i b) := by
  unfold metC
  rw [List.setIfInBounds_toArray, List.map_set]
theorem metB_setb {m : List Bool} {i : Nat} {b : Bool} (h : i < m.length) (k : Nat) : metB (m.set i b) k ↔ (k = i ∧ b = true) ∨ (k ≠ i ∧ metB m k) := by
  unfold metB
  rw [List.getD_eq_getElem?_getD, List.getD_eq_getElem?_getD, List.getElem?_set]
  by_cases hk : i = k
  · subst hk; simp [h]
  · rw [if_neg hk]
    constructor
    · intro h; exact .inr ⟨fun e => hk e.symm, h⟩
    · rintro (h | h)
      · exact absurd h.1.symm hk
      · exact h.2
theorem eAt_in {l : List OEdit} {k : Nat} (h : k < l.length) : eAt l k ∈ l := by rw [eAt_of (List.getElem?_eq_getElem h)]; exact List.getElem_mem h
theorem swap_dep {l : List OEdit} (hE : ∀ e ∈ l, editErr e = 0) {k i : Nat} (hk : k < l.length) (hi : i < l.length) : (!swapB (eAt l k) (eAt l i)) = dep l k i := by
  unfold swapB dep
  rw [hE _ (eAt_in hk), hE _ (eAt_in hi)]
  rfl
set_option maxRecDepth 100000 in
set_option maxHeartbeats 8000000 in
theorem r35Needed_any (l : List OEdit) (i : Nat) (a : Option Addr) (c : Nat) (w : World) (hl : Reads w [] (editsT l) (.slice a l.length c)) (hs : ∀ e ∈ l, SmE e) (hE : ∀ e ∈ l, editErr e = 0) (hn : l.length ≤ 1000000) (hi : i < l.length) :
    Calls Tryz.prog 34 #[.slice a l.length c, .int .i64 i] w fun r w' => ∃ B : List Bool, r = .returned (.slice (some ⟨w.heap.size, 0, none⟩) l.length l.length) ∧ B.length = l.length ∧ CBox w' w.heap.size 4 (metC B) ∧ (∀ k, metB B k ↔ Reach l i k) ∧ Below w.heap.size w w' := by
  obtain ⟨i0, hi0, hb0⟩ := Option.map_eq_some_iff.1 infoBool
  injection hb0 with hz hb0
  injection hb0 with hz1 hz2
  obtain ⟨z, hz0, hzc⟩ := Option.map_eq_some_iff.1 hz
  have hmk := run_make (P := Tryz.prog) w 57 4 i0 z Tryz.underlying57 hi0 hz0 .i64 .i64 (l.length : Int) (l.length : Int) (by omega) (Int.le_refl _) (by rw [hz2]; omega) (by omega)
  simp only [Int.toNat_natCast, hz1, hzc, made_bools] at hmk
  clear hz hz1 hz2 hz0 hzc hi0
  have HL := Lib.hid hl
  have HS := Lib.hid hs
  have HSD := Lib.hid (fun k m (hk : k < l.length) (hm : m < l.length) => swap_dep hE hk hm)
  have HST := Lib.hid (fun k => Reach.step (l := l) (i := i) (k := k))
  have HLT := Lib.hid (fun k (h : Reach l i k) => h.lt)
  have HC0 := Lib.hid (CBox.new w 4 (metC (List.replicate l.length false)))
  have HB0 := Lib.hid (qalloc w (.cells (metC (List.replicate l.length false)) 4))
  clear hl hs hE
  go_enter Tryz.func34, Tryz.ntmps34
  go_wp2
  go_loopw [6] (fun fv wr => ∃ (k : Nat) (B : List Bool), k ≤ i ∧ fv = .int .i64 ((k : Int) - 1) ∧ Hid (B.length = l.length) ∧ Hid (∀ j, metB B j ↔ (k ≤ j ∧ Reach l i j)) ∧ Hid (CBox wr w.heap.size 4 (metC B)) ∧ Hid (Below w.heap.size w wr)) (fun fv _ => (intOf fv + 1).toNat)
  case atStart => exact ⟨i, List.replicate l.length false, Nat.le_refl _, by first | rfl | (congr 1; unfold wrap64; omega), by show _ = _; simp, fun j => ⟨fun h => absurd h (metB_none _ _), fun h => by have := HLT.out j h.2; omega⟩, HC0, HB0⟩
  case round =>
    obtain ⟨k, B, hki, rfl, HBL, HBS, HM, HB⟩ := hrel
    cases k with
    | zero =>
      have hd : decide ((0 : Int) ≤ ((0 : Nat) : Int) - 1) = false := decide_eq_false (by omega)
      go_wp2
      go_ret
      exact ⟨B, rfl, HBL.out, HM.out, fun j => (HBS.out j).trans ⟨fun h => h.2, fun h => ⟨Nat.zero_le _, h⟩⟩, HB.out⟩
    | succ k =>
      have hk1 : (((k + 1 : Nat) : Int) - 1) = (k : Int) := by omega
      rw [hk1]
      have hd : decide ((0 : Int) ≤ (k : Int)) = true := decide_eq_true (by omega)
      have hkl : (k : Int) < (l.length : Int) := by omega
      have hil : (i : Int) < (l.length : Int) := by omega
      have hkn : k < l.length := by omega
      obtain ⟨e, he⟩ : ∃ e, l[k]? = some e := ⟨_, List.getElem?_eq_getElem hkn⟩
      obtain ⟨f, hf⟩ : ∃ f, l[i]? = some f := ⟨_, List.getElem?_eq_getElem hi⟩
      obtain ⟨b, o, ao, ac, af, ad, rfl, hbl, x0, x1, x2, x3, x4, hin⟩ := cells_edit HL.out he
      obtain ⟨b', o', bo, bc, bf, bd, ha, hbl', y0, y1, y2, y3, y4, hig⟩ := cells_edit HL.out hf
      injection ha with ha
      injection ha with ha1 ha2
      subst ha1 ha2
      have HC := Lib.hid (fun w' (h' : Below w.heap.size w w') => rIndep_any e f ao ac af ad bo bc bf bd w' (hin.out.below h') (hig.out.below h') (HS.out e (List.mem_of_getElem? he)) (HS.out f (List.mem_of_getElem? hf)))
      have hdp : (!swapB e f) = dep l k i := by have := HSD.out k i hkn hi; rwa [eAt_of he, eAt_of hf] at this
      have HDP := Lib.hid hdp
      have HE1 := Lib.hid hin.out
      have HEE := Lib.hid he
      have hml := HM.out.lt
      have hmk' := HM.out.cell (metC_at (k := k) (by have := HBL.out; omega))
      clear hin hig hf he hdp hbl'
      unfold editV at HC
      generalize swapB e f = sb at *
      have SW : Hid (∀ W : World, Below wr.heap.size wr W → (W.cell? ⟨b, o + k * 5, none⟩ = some (.int .i64 e.kind) ∧ W.cell? ⟨b, o + k * 5 + 1, none⟩ = some (.string e.pack) ∧ W.cell? ⟨b, o + k * 5 + 2, none⟩ = some (.string e.text) ∧ W.cell? ⟨b, o + k * 5 + 3, none⟩ = some (.slice ao e.old.length ac) ∧ W.cell? ⟨b, o + k * 5 + 4, none⟩ = some (.slice af e.fresh.length ad) ∧ W.cell? ⟨b, o + i * 5, none⟩ = some (.int .i64 f.kind) ∧ W.cell? ⟨b, o + i * 5 + 1, none⟩ = some (.string f.pack) ∧ W.cell? ⟨b, o + i * 5 + 2, none⟩ = some (.string f.text) ∧ W.cell? ⟨b, o + i * 5 + 3, none⟩ = some (.slice bo f.old.length bc) ∧ W.cell? ⟨b, o + i * 5 + 4, none⟩ = some (.slice bf f.fresh.length bd) ∧ b < W.heap.size ∧ w.heap.size < W.heap.size)) := Lib.hid (fun W hW => by
        have q := HB.out.trans (hW.mono HB.out.size)
        exact ⟨(q.cell (p := ⟨b, _, none⟩) hbl).trans x0, (q.cell (p := ⟨b, _, none⟩) hbl).trans x1, (q.cell (p := ⟨b, _, none⟩) hbl).trans x2, (q.cell (p := ⟨b, _, none⟩) hbl).trans x3, (q.cell (p := ⟨b, _, none⟩) hbl).trans x4, (q.cell (p := ⟨b, _, none⟩) hbl).trans y0, (q.cell (p := ⟨b, _, none⟩) hbl).trans y1, (q.cell (p := ⟨b, _, none⟩) hbl).trans y2, (q.cell (p := ⟨b, _, none⟩) hbl).trans y3, (q.cell (p := ⟨b, _, none⟩) hbl).trans y4, Nat.lt_of_lt_of_le hbl q.size, Nat.lt_of_lt_of_le hml hW.size⟩)
      have hdr : Below wr.heap.size wr wr.drew := (Mod.refl [] wr).drew.below
      clear x0 x1 x2 x3 x4 y0 y1 y2 y3 y4 hmk'
      go_upto_region 5 with (fail)
      go_cut [] from 13 to 61 (fun wx => Hid (CBox wx w.heap.size 4 (metC (B.set k (dep l k i)))) ∧ Hid (Below w.heap.size w wx))
      case first =>
        refine wp_region_noPanic (region_lexT (fun W : World => W.cell? ⟨b, o + k * 5, none⟩ = some (.int .i64 e.kind) ∧ W.cell? ⟨b, o + k * 5 + 1, none⟩ = some (.string e.pack) ∧ W.cell? ⟨b, o + k * 5 + 2, none⟩ = some (.string e.text) ∧ W.cell? ⟨b, o + k * 5 + 3, none⟩ = some (.slice ao e.old.length ac) ∧ W.cell? ⟨b, o + k * 5 + 4, none⟩ = some (.slice af e.fresh.length ad) ∧ W.cell? ⟨b, o + i * 5, none⟩ = some (.int .i64 f.kind) ∧ W.cell? ⟨b, o + i * 5 + 1, none⟩ = some (.string f.pack) ∧ W.cell? ⟨b, o + i * 5 + 2, none⟩ = some (.string f.text) ∧ W.cell? ⟨b, o + i * 5 + 3, none⟩ = some (.slice bo f.old.length bc) ∧ W.cell? ⟨b, o + i * 5 + 4, none⟩ = some (.slice bf f.fresh.length bd) ∧ b < W.heap.size ∧ w.heap.size < W.heap.size) [true, true, true, true, true, true, true, true, true, true, false, true, true] mixedK (by kernel_rfl) (fun _ _ _ _ _ h => h) (SW.out _ hdr) (fun hHeld => ?_))
        iterate 10 (first | (refine lexT_skip (by rfl) ?_; (try simp only [Act.put, List.setIfInBounds_toArray, List.set_cons_zero, List.set_cons_succ])) | (refine lexT_take (v := ?_) (by rfl) ?_ ?_; rotate_left; (focus (intro wq hSw; (try dsimp only at hSw); go_simp; (try with_reducible rfl))); (try simp only [Act.put, List.setIfInBounds_toArray, List.set_cons_zero, List.set_cons_succ])))
        clear hHeld
        generalize wr.drew = wd at *
        (refine lexT_do (by rfl) (fun K hK => ?_); go_simp)
        refine (HC.out _ (HB.out.trans (hdr.mono HB.out.size))).mono ?_
        rintro r w3 ⟨rfl, hb3⟩
        (try go_simp)
        have hb4 := qtrans hdr hb3
        refine hK.out _ _ (SW.out _ hb4) (fun _ => ?_); clear hK K; (try simp only [Act.put, List.setIfInBounds_toArray, List.set_cons_zero, List.set_cons_succ])
        iterate 2 (first | (refine lexT_skip (by rfl) ?_; (try simp only [Act.put, List.setIfInBounds_toArray, List.set_cons_zero, List.set_cons_succ])) | (refine lexT_take (v := ?_) (by rfl) ?_ ?_; rotate_left; (focus (intro wq hSw; (try dsimp only at hSw); go_simp; (try with_reducible rfl))); (try simp only [Act.put, List.setIfInBounds_toArray, List.set_cons_zero, List.set_cons_succ])))
        refine lexT_end ?_
        have g := HM.out.below hb4
        have hc0 := g.cell (metC_at (k := k) (by have := HBL.out; omega))
        have hfz := g.frozen k
        have hgl := g.lt
        have HB4 := Lib.hid (HB.out.trans (hb4.mono HB.out.size))
        have HG := Lib.hid g
        clear g hb4 hb3 hdr
        go_wp2
        refine NoPanic.normal ?_
        go_wp2
        go_meet
        case rel =>
          refine ⟨?_, ?_⟩
          · show CBox _ _ _ _
            rw [← HDP.out, ← metC_setb]
            exact HG.out.set k _
          · exact HB4.out.trans (((Mod.refl [w.heap.size] w3).setCell (p := ⟨w.heap.size, k, none⟩) (by simp) _).upto HB4.out.size (by intro q hq; simp at hq; omega))
      case rest =>
      obtain ⟨HM5, HB5⟩ := hcut
      generalize wc = w5 at *
      clear SW HC hdr hml HM HB HDP
      generalize wr = wo at *
      go_wp2
      go_loopw [7] (fun mv wr => ∃ (m : Nat) (bb : Bool), k < m ∧ m ≤ i ∧ mv = .int .i64 (m : Int) ∧ Hid (bb = true ↔ (dep l k i = true ∨ ∃ q, k < q ∧ q < m ∧ Reach l i q ∧ dep l k q = true)) ∧ Hid (CBox wr w.heap.size 4 (metC (B.set k bb))) ∧ Hid (Below w.heap.size w wr)) (fun mv _ => i - (intOf mv).toNat)
      case atStart => exact ⟨k + 1, dep l k i, by omega, by omega, by first | rfl | (congr 1; unfold wrap64; omega), ⟨fun h => .inl h, fun h => h.elim id (fun ⟨q, h1, h2, _⟩ => by omega)⟩, HM5, HB5⟩
      case round =>
        obtain ⟨m, bb, hkm, hmi, rfl, HBB, HM, HB⟩ := hrel
        clear HM5 HB5
        by_cases hmi2 : m < i
        · have hd2 : decide ((m : Int) < (i : Int)) = true := decide_eq_true (by omega)
          have hmn : m < l.length := by omega
          have hml' : (m : Int) < (l.length : Int) := by omega
          obtain ⟨g, hg⟩ : ∃ g, l[m]? = some g := ⟨_, List.getElem?_eq_getElem hmn⟩
          obtain ⟨b1, o1, ao1, ac1, af1, ad1, ha, hbl1, x0, x1, x2, x3, x4, hin1⟩ := cells_edit HL.out HEE.out
          injection ha with ha
          injection ha with ha1 ha2
          subst ha1 ha2
          obtain ⟨b2, o2, co, cc, cf, cd, ha, hbl2, y0, y1, y2, y3, y4, hig⟩ := cells_edit HL.out hg
          injection ha with ha
          injection ha with ha1 ha2
          subst ha1 ha2
          have HC := Lib.hid (fun w' (h' : Below w.heap.size w w') => rIndep_any e g ao1 ac1 af1 ad1 co cc cf cd w' (hin1.out.below h') (hig.out.below h') (HS.out e (List.mem_of_getElem? HEE.out)) (HS.out g (List.mem_of_getElem? hg)))
          have hdp : (!swapB e g) = dep l k m := by have := HSD.out k m hkn hmn; rwa [eAt_of HEE.out, eAt_of hg] at this
          have HDP := Lib.hid hdp
          have hml := HM.out.lt
          have HBM := Lib.hid (HBS.out m)
          have z0 := HM.out.cell (metC_at (k := k) (by have := HBL.out; simp; omega))
          have z1 := HM.out.cell (metC_at (k := m) (by have := HBL.out; simp; omega))
          rw [show (B.set k bb).getD k false = bb by rw [List.getD_eq_getElem?_getD, List.getElem?_set_self (by have := HBL.out; omega)]; rfl] at z0
          rw [show (B.set k bb).getD m false = B.getD m false by rw [List.getD_eq_getElem?_getD, List.getElem?_set_ne (by omega), ← List.getD_eq_getElem?_getD]] at z1
          unfold metB at HBM
          clear hin1 hig hg hdp hbl1 hbl2
          unfold editV at HC
          generalize swapB e g = sb2 at *
          generalize B.getD m false = mb at *
          have SW : Hid (∀ W : World, Below wr.heap.size wr W → (W.cell? ⟨b, o + k * 5, none⟩ = some (.int .i64 e.kind) ∧ W.cell? ⟨b, o + k * 5 + 1, none⟩ = some (.string e.pack) ∧ W.cell? ⟨b, o + k * 5 + 2, none⟩ = some (.string e.text) ∧ W.cell? ⟨b, o + k * 5 + 3, none⟩ = some (.slice ao1 e.old.length ac1) ∧ W.cell? ⟨b, o + k * 5 + 4, none⟩ = some (.slice af1 e.fresh.length ad1) ∧ W.cell? ⟨b, o + m * 5, none⟩ = some (.int .i64 g.kind) ∧ W.cell? ⟨b, o + m * 5 + 1, none⟩ = some (.string g.pack) ∧ W.cell? ⟨b, o + m * 5 + 2, none⟩ = some (.string g.text) ∧ W.cell? ⟨b, o + m * 5 + 3, none⟩ = some (.slice co g.old.length cc) ∧ W.cell? ⟨b, o + m * 5 + 4, none⟩ = some (.slice cf g.fresh.length cd) ∧ W.cell? ⟨w.heap.size, k, none⟩ = some (.bool bb) ∧ W.cell? ⟨w.heap.size, m, none⟩ = some (.bool mb) ∧ b < W.heap.size ∧ w.heap.size < W.heap.size)) := Lib.hid (fun W hW => by
            have q := HB.out.trans (hW.mono HB.out.size)
            exact ⟨(q.cell (p := ⟨b, _, none⟩) hbl).trans x0, (q.cell (p := ⟨b, _, none⟩) hbl).trans x1, (q.cell (p := ⟨b, _, none⟩) hbl).trans x2, (q.cell (p := ⟨b, _, none⟩) hbl).trans x3, (q.cell (p := ⟨b, _, none⟩) hbl).trans x4, (q.cell (p := ⟨b, _, none⟩) hbl).trans y0, (q.cell (p := ⟨b, _, none⟩) hbl).trans y1, (q.cell (p := ⟨b, _, none⟩) hbl).trans y2, (q.cell (p := ⟨b, _, none⟩) hbl).trans y3, (q.cell (p := ⟨b, _, none⟩) hbl).trans y4, (hW.cell (p := ⟨w.heap.size, _, none⟩) hml).trans z0, (hW.cell (p := ⟨w.heap.size, _, none⟩) hml).trans z1, Nat.lt_of_lt_of_le hbl q.size, Nat.lt_of_lt_of_le hml hW.size⟩)
          have hdr : Below wr.heap.size wr wr.drew := (Mod.refl [] wr).drew.below
          clear x0 x1 x2 x3 x4 y0 y1 y2 y3 y4 z0 z1
          go_upto_region 9 with (fail)
          have HN : Hid ((bb || (mb && dep l k m)) = true ↔ (dep l k i = true ∨ ∃ q, k < q ∧ q < m + 1 ∧ Reach l i q ∧ dep l k q = true)) := by
            show _ ↔ _
            have h1 := HBB.out
            have h2 := HBM.out
            rw [Bool.or_eq_true, Bool.and_eq_true, h1, h2]
            constructor
            · rintro ((h | ⟨q, q1, q2, q3⟩) | ⟨⟨_, h3⟩, h4⟩)
              · exact .inl h
              · exact .inr ⟨q, q1, by omega, q3⟩
              · exact .inr ⟨m, hkm, by omega, h3, h4⟩
            · rintro (h | ⟨q, q1, q2, q3, q4⟩)
              · exact .inl (.inl h)
              · rcases Nat.lt_or_ge q m with h5 | h5
                · exact .inl (.inr ⟨q, q1, h5, q3, q4⟩)
                · obtain rfl : q = m := by omega
                  exact .inr ⟨⟨by omega, q3⟩, q4⟩
          skip
          · skip
            refine wp_region_noPanic (region_lexT (fun W : World => W.cell? ⟨b, o + k * 5, none⟩ = some (.int .i64 e.kind) ∧ W.cell? ⟨b, o + k * 5 + 1, none⟩ = some (.string e.pack) ∧ W.cell? ⟨b, o + k * 5 + 2, none⟩ = some (.string e.text) ∧ W.cell? ⟨b, o + k * 5 + 3, none⟩ = some (.slice ao1 e.old.length ac1) ∧ W.cell? ⟨b, o + k * 5 + 4, none⟩ = some (.slice af1 e.fresh.length ad1) ∧ W.cell? ⟨b, o + m * 5, none⟩ = some (.int .i64 g.kind) ∧ W.cell? ⟨b, o + m * 5 + 1, none⟩ = some (.string g.pack) ∧ W.cell? ⟨b, o + m * 5 + 2, none⟩ = some (.string g.text) ∧ W.cell? ⟨b, o + m * 5 + 3, none⟩ = some (.slice co g.old.length cc) ∧ W.cell? ⟨b, o + m * 5 + 4, none⟩ = some (.slice cf g.fresh.length cd) ∧ W.cell? ⟨w.heap.size, k, none⟩ = some (.bool bb) ∧ W.cell? ⟨w.heap.size, m, none⟩ = some (.bool mb) ∧ b < W.heap.size ∧ w.heap.size < W.heap.size) [true, true, true, true, true, true, true, true, true, true, true, true, true, true, true, true, true, true, true, true, false, true, true, true, true] mixedK (by kernel_rfl) (fun _ _ _ _ _ h => h) (SW.out _ hdr) (fun hHeld => ?_))
            cases bb with
            | true =>
              iterate 25 (first | (refine lexT_skip (by rfl) ?_; (try simp only [Act.put, List.setIfInBounds_toArray, List.set_cons_zero, List.set_cons_succ])) | (refine lexT_take (v := ?_) (by rfl) ?_ ?_; rotate_left; (focus (intro wq hSw; (try dsimp only at hSw); go_simp; (try with_reducible rfl))); (try simp only [Act.put, List.setIfInBounds_toArray, List.set_cons_zero, List.set_cons_succ])))
              refine lexT_end ?_
              clear hHeld
              generalize wr.drew = wd at *
              have g0 := HM.out.below hdr
              have hc0 := g0.cell (metC_at (k := k) (by have := HBL.out; simp; omega))
              have hfz := g0.frozen k
              have hgl := g0.lt
              have HB4 := Lib.hid (HB.out.trans (hdr.mono HB.out.size))
              have HG := Lib.hid g0
              clear g0 SW
              have HC9 : Hid (CBox (wd.setCell ⟨w.heap.size, k, none⟩ (.bool true)) w.heap.size 4 (metC (B.set k (true || (mb && dep l k m))))) := by
                show CBox _ _ _ _
                have q := HG.out.set k (.bool true)
                rw [metC_setb, List.set_set] at q
                exact q
              have HB9 := Lib.hid (HB4.out.trans (((Mod.refl [w.heap.size] wd).setCell (p := ⟨w.heap.size, k, none⟩) (by simp) (.bool true)).upto HB4.out.size (by intro q hq; simp at hq; omega)))
              go_wp2
              refine NoPanic.normal ?_
              go_wp2
              go_roundw
              case rel => exact ⟨m + 1, _, by omega, by omega, by go_num, HN, HC9, HB9⟩
              case measure => simp [intOf]; omega
            | false =>
              cases mb with
              | false =>
                iterate 25 (first | (refine lexT_skip (by rfl) ?_; (try simp only [Act.put, List.setIfInBounds_toArray, List.set_cons_zero, List.set_cons_succ])) | (refine lexT_take (v := ?_) (by rfl) ?_ ?_; rotate_left; (focus (intro wq hSw; (try dsimp only at hSw); go_simp; (try with_reducible rfl))); (try simp only [Act.put, List.setIfInBounds_toArray, List.set_cons_zero, List.set_cons_succ])))
                refine lexT_end ?_
                clear hHeld
                generalize wr.drew = wd at *
                have g0 := HM.out.below hdr
                have hc0 := g0.cell (metC_at (k := k) (by have := HBL.out; simp; omega))
                have hfz := g0.frozen k
                have hgl := g0.lt
                have HB4 := Lib.hid (HB.out.trans (hdr.mono HB.out.size))
                have HG := Lib.hid g0
                clear g0 SW
                have HC9 : Hid (CBox (wd.setCell ⟨w.heap.size, k, none⟩ (.bool false)) w.heap.size 4 (metC (B.set k (false || (false && dep l k m))))) := by
                  show CBox _ _ _ _
                  have q := HG.out.set k (.bool false)
                  rw [metC_setb, List.set_set] at q
                  exact q
                have HB9 := Lib.hid (HB4.out.trans (((Mod.refl [w.heap.size] wd).setCell (p := ⟨w.heap.size, k, none⟩) (by simp) (.bool false)).upto HB4.out.size (by intro q hq; simp at hq; omega)))
                go_wp2
                refine NoPanic.normal ?_
                go_wp2
                go_roundw
                case rel => exact ⟨m + 1, _, by omega, by omega, by go_num, HN, HC9, HB9⟩
                case measure => simp [intOf]; omega
              | true =>
                iterate 20 (first | (refine lexT_skip (by rfl) ?_; (try simp only [Act.put, List.setIfInBounds_toArray, List.set_cons_zero, List.set_cons_succ])) | (refine lexT_take (v := ?_) (by rfl) ?_ ?_; rotate_left; (focus (intro wq hSw; (try dsimp only at hSw); go_simp; (try with_reducible rfl))); (try simp only [Act.put, List.setIfInBounds_toArray, List.set_cons_zero, List.set_cons_succ])))
                clear hHeld
                generalize wr.drew = wd at *
                (refine lexT_do (by rfl) (fun K hK => ?_); go_simp)
                refine (HC.out _ (HB.out.trans (hdr.mono HB.out.size))).mono ?_
                rintro r w3 ⟨rfl, hb3⟩
                (try go_simp)
                have hdr2 := qtrans hdr hb3
                refine hK.out _ _ (SW.out _ hdr2) (fun _ => ?_); clear hK K; (try simp only [Act.put, List.setIfInBounds_toArray, List.set_cons_zero, List.set_cons_succ])
                iterate 4 (first | (refine lexT_skip (by rfl) ?_; (try simp only [Act.put, List.setIfInBounds_toArray, List.set_cons_zero, List.set_cons_succ])) | (refine lexT_take (v := ?_) (by rfl) ?_ ?_; rotate_left; (focus (intro wq hSw; (try dsimp only at hSw); go_simp; (try with_reducible rfl))); (try simp only [Act.put, List.setIfInBounds_toArray, List.set_cons_zero, List.set_cons_succ])))
                refine lexT_end ?_
                have g0 := HM.out.below hdr2
                have hc0 := g0.cell (metC_at (k := k) (by have := HBL.out; simp; omega))
                have hfz := g0.frozen k
                have hgl := g0.lt
                have HB4 := Lib.hid (HB.out.trans (hdr2.mono HB.out.size))
                have HG := Lib.hid g0
                clear g0 SW
                have HC9 : Hid (CBox (w3.setCell ⟨w.heap.size, k, none⟩ (.bool (!sb2))) w.heap.size 4 (metC (B.set k (false || (true && dep l k m))))) := by
                  show CBox _ _ _ _
                  have q := HG.out.set k (.bool (!sb2))
                  rw [metC_setb, List.set_set] at q
                  rw [HDP.out] at q ⊢
                  exact q
                have HB9 := Lib.hid (HB4.out.trans (((Mod.refl [w.heap.size] w3).setCell (p := ⟨w.heap.size, k, none⟩) (by simp) (.bool (!sb2))).upto HB4.out.size (by intro q hq; simp at hq; omega)))
                go_wp2
                refine NoPanic.normal ?_
                go_wp2
                go_roundw
                case rel => exact ⟨m + 1, _, by omega, by omega, by go_num, HN, HC9, HB9⟩
                case measure => simp [intOf]; omega
        · have hd2 : decide ((m : Int) < (i : Int)) = false := decide_eq_false (by omega)
          obtain rfl : m = i := by omega
          have HBS2 : Hid (∀ j, metB (B.set k bb) j ↔ (k ≤ j ∧ Reach l m j)) := fun j => by
            rw [metB_setb (by have := HBL.out; omega), HBS.out j]
            constructor
            · rintro (⟨rfl, h⟩ | ⟨h1, h2, h3⟩)
              · exact ⟨Nat.le_refl _, (HST.out j).2 ⟨hkm, (HBB.out.1 h).elim .inl (fun ⟨q, q1, q2, q3, q4⟩ => .inr ⟨q, q1, q2, q3, q4⟩)⟩⟩
              · exact ⟨by omega, h3⟩
            · rintro ⟨h1, h2⟩
              by_cases hj : j = k
              · subst hj
                exact .inl ⟨rfl, HBB.out.2 (((HST.out j).1 h2).2.elim .inl (fun ⟨q, q1, q2, q3, q4⟩ => .inr ⟨q, q1, q2, q3, q4⟩))⟩
              · exact .inr ⟨hj, by omega, h2⟩
          have HBL2 : Hid ((B.set k bb).length = l.length) := by show _ = _; rw [List.length_set]; exact HBL.out
          go_wp2
          go_roundw
          case rel => exact ⟨k, B.set k bb, by omega, by first | rfl | (congr 1; unfold wrap64; omega), HBL2, HBS2, HM, HB⟩
          case measure => first | (simp [intOf]; done) | (simp [intOf]; omega)
end Go.Proofs.YtlcpdhionefmbaaGreatDoor

namespace Go.Proofs.YtlcpdhionefmbaaGreatDoor
open Go.RowKit Go.Shelf
attribute [local go_sem] Oper.semAt_some

theorem check_zero {l : List OEdit} {i : Int} (h : checkErr l i = 0) : (∀ e ∈ l, editErr e = 0) ∧ 0 ≤ i ∧ i < (l.length : Int) := by
  unfold checkErr at h
  split at h
  · rename_i h1
    split at h
    · cases h
    · rename_i h2
      refine ⟨fun e he => ?_, by omega, by omega⟩
      obtain ⟨k, hk, rfl⟩ := List.mem_iff_getElem.1 he
      unfold listErr at h1
      have := nz_zero.1 h1 k hk
      rwa [eAt_of (List.getElem?_eq_getElem hk)] at this
  · rename_i h1; exact absurd h h1
theorem need_met {l : List OEdit} {i : Nat} (hi : i < l.length) {B : List Bool} (hB : ∀ k, metB B k ↔ Reach l i k) (k : Nat) : ((needB l i).getD k false && !(k == i)) = B.getD k false := by
  rw [Bool.eq_iff_iff, Bool.and_eq_true, needB_iff hi k]
  have h1 := hB k
  unfold metB at h1
  rw [h1]
  constructor
  · rintro ⟨h | h, h2⟩
    · rw [h] at h2; simp at h2
    · exact h
  · intro h
    have := h.lt
    exact ⟨.inr h, by simp; omega⟩
theorem pick_met {l : List OEdit} {i : Nat} (hi : i < l.length) {B : List Bool} (hB : ∀ k, metB B k ↔ Reach l i k) (k : Nat) : (needB l i).getD k false = (B.getD k false || (k == i)) := by
  rw [Bool.eq_iff_iff, Bool.or_eq_true, needB_iff hi k]
  have h1 := hB k
  unfold metB at h1
  rw [h1, beq_iff_eq]
  exact ⟨fun h => h.symm, fun h => h.symm⟩
theorem nil_ints (w : World) : (w.alloc (.cells #[] 3)).ownsRow w.heap.size 3 1 (.slice (some ⟨w.heap.size, 0, none⟩) 0 0) 0 [] := World.ownsRow_made w #[] 0 (Nat.le_refl _) (Nat.zero_le _) rfl
set_option maxRecDepth 100000 in
set_option maxHeartbeats 8000000 in
theorem rNeeds_any (l : List OEdit) (i : Int) (a : Option Addr) (c : Nat) (w : World) (hl : Reads w [] (editsT l) (.slice a l.length c)) (hs : ∀ e ∈ l, SmE e) (hn : l.length ≤ 1000000) :
    Calls Tryz.prog 16 #[.slice a l.length c, .int .i64 i] w fun r w' => ∃ v, r = .returned (.tuple #[v, .int .i64 (checkErr l i)]) ∧ IntsR w' v (needsOf l i) ∧ Below w.heap.size w w' := by
  have HL := Lib.hid hl
  have HC := Lib.hid (fun W (h : Below w.heap.size w W) => r35Check_any l a c i W (hl.below h) hs hn)
  have hp : needsOf l i = if checkErr l i = 0 then needI l i.toNat else [] := rfl
  obtain ⟨i0, z, hi0, hz0, hzs, hz1, hz2⟩ := info_parts' infoInt'
  have HN0 := Lib.hid (nil_ints w)
  have HA0 := Lib.hid (qalloc w (.cells #[] 3))
  by_cases h0 : checkErr l i = 0
  rotate_left
  · rw [if_neg h0] at hp
    have q1 : (checkErr l i != 0) = true := by simp [h0]
    have HP := Lib.hid hp
    clear hp h0 hl hs
    generalize needsOf l i = T at *
    generalize checkErr l i = q at *
    go_enter Tryz.func16, Tryz.ntmps16
    go_wp2_with (fail)
    refine (HC.out _ HA0.out).mono ?_
    rintro r w1 ⟨rfl, hb1⟩
    go_wp2
    go_returns
    exact ⟨_, rfl, by rw [HP.out]; exact owns_row (owns_below HN0.out hb1), qtrans HA0.out hb1⟩
  rw [if_pos h0] at hp
  have q1 : (checkErr l i != 0) = false := by rw [h0]; rfl
  obtain ⟨hE, hi1, hi2⟩ := check_zero h0
  obtain ⟨j, rfl⟩ : ∃ j : Nat, i = (j : Int) := ⟨i.toNat, by omega⟩
  rw [Int.toNat_natCast] at hp
  have hj : j < l.length := by omega
  have HN := Lib.hid (fun W (h : Below w.heap.size w W) => r35Needed_any l j a c W (hl.below h) hs hE hn hj)
  have HP : Hid (needsOf l j = partI l j l.length) := hp
  have HPS := Lib.hid (partI_succ l j)
  have HPL := Lib.hid (partI_len l j)
  have HP0 : Hid (partI l j 0 = []) := rfl
  have H0 := Lib.hid h0
  have HMT := Lib.hid (fun B hB k => need_met hj (B := B) hB k)
  clear hp hl hs hE h0 hi1 hi2
  generalize needsOf l (j : Int) = T at *
  generalize needB l j = mm at *
  generalize partI l j = pf at *
  generalize checkErr l (j : Int) = q at *
  go_enter Tryz.func16, Tryz.ntmps16
  go_wp2_with (fail)
  refine (HC.out _ HA0.out).mono ?_
  rintro r w1 ⟨rfl, hb1⟩
  have HB1 := Lib.hid (qtrans HA0.out hb1)
  have HO1 := Lib.hid (owns_below HN0.out hb1)
  clear hb1 HC HN0 HA0
  go_wp2_with (fail)
  refine (HN.out _ HB1.out).mono ?_
  rintro r w2 ⟨B, rfl, hlen, hm2, hmet, hb2⟩
  have HB2 := Lib.hid (qtrans HB1.out hb2)
  have HO2 := Lib.hid (owns_below HO1.out hb2)
  have HL2 := Lib.hid hlen
  have HM2 := Lib.hid hm2
  have HMM := Lib.hid (HMT.out B hmet)
  have hsz2 := hm2.lt
  have hwM := HB1.out.size
  have hlw : w.heap.size < w1.heap.size := by
    have q := HO1.out.lt w.heap.size rfl
    omega
  generalize w1.heap.size = M at *
  clear hlen hm2 hmet HMT HN hb2 HB1 HO1
  go_wp2
  go_loopw [6, 9] (fun sv iv wr => ∃ k : Nat, k ≤ l.length ∧ iv = .int .i64 k ∧ Hid (wr.ownsRow w.heap.size 3 1 sv (pf k).length ((pf k).map (Value.int .i64))) ∧ Hid (∀ q, sv.ownBlock = some q → q ≠ M) ∧ Hid (CBox wr M 4 (metC B)) ∧ Hid (Below w.heap.size w wr)) (fun _ iv _ => l.length - (intOf iv).toNat)
  case atStart => exact ⟨0, Nat.zero_le _, rfl, by rw [HP0.out]; exact HO2.out, fun q hq => by simp [Value.ownBlock] at hq; omega, HM2, HB2⟩
  case round =>
    obtain ⟨k, hkl, rfl, HO, HK, HM, HB⟩ := hrel
    clear HM2 HB2 HO2
    by_cases hi : k < l.length
    · have hd : decide ((k : Int) < (l.length : Int)) = true := decide_eq_true (by omega)
      have hir : (k : Int) < (l.length : Int) := by omega
      have hmk := HM.out.cell (metC_at (k := k) (by have := HL2.out; omega))
      have hml := HM.out.lt
      have HS := Lib.hid (HPS.out k)
      have hlen := HPL.out k
      rw [HMM.out k] at HS
      generalize B.getD k false = mb at *
      have HOX := HO.out
      obtain ⟨sa, sc, rfl⟩ := owns_val HOX
      have hsw := HB.out.size
      cases mb with
      | false =>
        rw [if_neg (by simp), List.append_nil] at HS
        go_wp2
        go_roundw
        case rel => exact ⟨k + 1, by omega, by go_num, by rw [HS.out]; exact HO.out, HK, HM, HB⟩
        case measure => simp [intOf]; omega
      | true =>
        rw [if_pos rfl] at HS
        have hA3 := qalloc wr (.cells #[.int .i64 k] 3)
        have HR3 := Lib.hid (owns_row (own_one wr wr.heap.size (Nat.le_refl _) (.int .i64 k) 3))
        have HO3 := Lib.hid (owns_below HO.out hA3)
        have HM3 := Lib.hid (HM.out.below hA3)
        have HA3 := Lib.hid hA3
        have hsz3 := hA3.size
        clear hA3 HOX
        go_wp2_with (at_builtin; refine wpList_append_row rfl _ _ 36 rfl w.heap.size 3 i0 _ 1 8 Tryz.underlying36 hi0 hz0 hz1 hz2 hzs (by decide) _ _ _ rfl HO3.out _ _ _ rfl HR3.out (by intro u hu; simp at hu; subst hu; rfl) (by unfold maxLen; omega) (by omega) (by omega) ?_)
        intro v5 w5 hown5 hg5 hbk5
        have HB5 := Lib.hid (((HB.out.trans (HA3.out.mono hsw))).grown hg5 (by omega) (fun x hx => (HO3.out.lt x hx).1))
        have HO5 : Hid (w5.ownsRow w.heap.size 3 1 v5 (pf (k + 1)).length ((pf (k + 1)).map (Value.int .i64))) := by
          show World.ownsRow _ _ _ _ _ _ _
          rw [HS.out, List.length_append, List.map_append]
          exact hown5
        have HM5 : Hid (CBox w5 M 4 (metC B)) := (hg5.block M HM3.out.lt (fun e => HK.out M e.symm rfl)).trans HM3.out
        have HK5 : Hid (∀ q, v5.ownBlock = some q → q ≠ M) := by
          show ∀ q, _
          intro q hq
          rcases hbk5 with e | e
          · exact HK.out q (e ▸ hq)
          · rw [e] at hq
            (try simp only [World.size_alloc] at hq)
            cases hq
            omega
        clear hown5 hg5 hbk5
        go_wp2
        go_roundw
        case rel => exact ⟨k + 1, by omega, by go_num, HO5, HK5, HM5, HB5⟩
        case measure => simp [intOf]; omega
    · have hd : decide ((k : Int) < (l.length : Int)) = false := decide_eq_false (by omega)
      obtain rfl : k = l.length := by omega
      have HOX := HO.out
      obtain ⟨sa, sc, rfl⟩ := owns_val HOX
      have HF : Hid (IntsR wr (.slice sa (pf l.length).length sc) T) := by
        show IntsR _ _ _
        rw [HP.out]
        exact owns_row HO.out
      clear HO HOX
      go_wp2
      go_returns
      exact ⟨_, by rw [H0.out]; rfl, HF.out, HB.out⟩
end Go.Proofs.YtlcpdhionefmbaaGreatDoor
