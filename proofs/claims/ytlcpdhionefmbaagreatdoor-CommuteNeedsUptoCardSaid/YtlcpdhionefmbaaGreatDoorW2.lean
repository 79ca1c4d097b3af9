/- Pick, both. Plain: what is dropped; the reference's Drop. commute.Drop. -/
import Derived.Test.YtlcpdhionefmbaaGreatDoorW1
import Derived.Test.YtlcpdhionefmbaaGreatDoorSEy
namespace Go.Proofs.YtlcpdhionefmbaaGreatDoor
open Go.RowKit Go.Shelf
attribute [local go_sem] Oper.semAt_some

def partE (l : List OEdit) (p : Nat → Bool) (k : Nat) : List OEdit := ((List.range k).filter p).map (eAt l)
theorem partE_succ (l : List OEdit) (p : Nat → Bool) (k : Nat) : partE l p (k + 1) = partE l p k ++ (if p k then [eAt l k] else []) := by
  unfold partE
  rw [List.range_succ, List.filter_append, List.map_append]
  congr 1
  rw [List.filter_cons]
  split <;> rfl
theorem partE_len (l : List OEdit) (p : Nat → Bool) (k : Nat) : (partE l p k).length ≤ k := by
  unfold partE
  rw [List.length_map]
  exact Nat.le_trans (List.length_filter_le _ _) (by simp)
theorem partE_mem {l : List OEdit} {p : Nat → Bool} {P : OEdit → Prop} (h : ∀ e ∈ l, P e) : ∀ e ∈ partE l p l.length, P e := by
  intro e he
  unfold partE at he
  obtain ⟨k, hk, rfl⟩ := List.mem_map.1 he
  have := (List.mem_filter.1 hk).1
  exact h _ (eAt_in (by simpa using this))
def pickE (l : List OEdit) (i : Nat) : List OEdit := partE l (fun k => (needB l i).getD k false) l.length
def pickOf (l : List OEdit) (i : Int) : List OEdit := if checkErr l i = 0 then pickE l i.toNat else []
/-- A slice of edits that the call owns; what its elements reach lies below. -/
def OwnE (w0 w : World) (B : Nat) (v : Value) (l : List OEdit) : Prop := ∃ xs, w.ownsRow B 24 5 v l.length xs ∧ ReadsL w0 [] (l.flatMap editT) xs
theorem OwnE.below {w0 w w' : World} {B : Nat} {v : Value} {l : List OEdit} (h : OwnE w0 w B v l) (m : Below w.heap.size w w') : OwnE w0 w' B v l := by
  obtain ⟨xs, h1, h2⟩ := h; exact ⟨xs, owns_below h1 m, h2⟩
theorem OwnE.reads {w0 w : World} {B : Nat} {v : Value} {l : List OEdit} (h : OwnE w0 w B v l) (m : Below w0.heap.size w0 w) : Reads w [] (editsT l) v := by
  obtain ⟨xs, h1, h2⟩ := h
  exact Reads.ofRow (owns_row h1) (fun _ b _ => by simp) (h2.below m)
theorem OwnE.nilA (w0 : World) : OwnE w0 (w0.alloc (.cells #[] 24)) w0.heap.size (.slice (some ⟨w0.heap.size, 0, none⟩) 0 0) [] := ⟨[], World.ownsRow_made w0 #[] 0 (Nat.le_refl _) (Nat.zero_le _) rfl, ReadsL.nil _ _⟩
theorem OwnE.nil (w0 w : World) (B : Nat) : OwnE w0 w B (.slice none 0 0) [] := ⟨[], World.ownsRow_nil _ _ _ _, ReadsL.nil _ _⟩
theorem OwnE.val {w0 w : World} {B : Nat} {v : Value} {l : List OEdit} (h : OwnE w0 w B v l) : ∃ a c, v = .slice a l.length c := by
  obtain ⟨xs, h1, _⟩ := h; exact owns_val h1
theorem OwnE.lt {w0 w : World} {B : Nat} {v : Value} {l : List OEdit} (h : OwnE w0 w B v l) {q : Nat} (hq : v.ownBlock = some q) : B ≤ q ∧ q < w.heap.size := by
  obtain ⟨xs, h1, _⟩ := h; exact h1.lt q hq
theorem OwnE.snoc {w0 w' : World} {B : Nat} {v' : Value} {l : List OEdit} {e : OEdit} {xs : List Value} {ao : Option Addr} {co : Nat} {af : Option Addr} {cf : Nat} (hx : ReadsL w0 [] (l.flatMap editT) xs) (he : EditIn w0 e ao co af cf) (h : w'.ownsRow B 24 5 v' (l.length + 1) (xs ++ [.int .i64 e.kind, .string e.pack, .string e.text, .slice ao e.old.length co, .slice af e.fresh.length cf])) : OwnE w0 w' B v' (l ++ [e]) := by
  refine ⟨_, by rw [List.length_append]; exact h, ?_⟩
  rw [List.flatMap_append, List.flatMap_cons, List.flatMap_nil, List.append_nil]
  exact ReadsL.append (ReadsL.cons (Reads.leaf' _ _ _) (ReadsL.cons (Reads.leaf' _ _ _) (ReadsL.cons (Reads.leaf' _ _ _) (ReadsL.cons he.old (ReadsL.cons he.fresh (ReadsL.nil _ _)))))) hx
set_option maxRecDepth 100000 in
set_option maxHeartbeats 8000000 in
theorem cPick_any (l : List OEdit) (i : Int) (a : Option Addr) (c : Nat) (w : World) (hl : Reads w [] (editsT l) (.slice a l.length c)) (hs : ∀ e ∈ l, SmE e) (hn : l.length ≤ 1000000) :
    Calls Tryz.prog 17 #[.slice a l.length c, .int .i64 i] w fun r w' => ∃ v, r = .returned (.tuple #[v, .int .i64 (checkErr l i)]) ∧ (∃ a' c', v = .slice a' (pickOf l i).length c') ∧ Reads w' [] (editsT (pickOf l i)) v ∧ Below w.heap.size w w' := by
  have HL := Lib.hid hl
  have HC := Lib.hid (cCheck_any l a c i w hl hs hn)
  have hp : pickOf l i = if checkErr l i = 0 then pickE l i.toNat else [] := rfl
  obtain ⟨i0, z, hi0, hz0, hzs, hz1, hz2⟩ := info_parts' infoEdit
  by_cases h0 : checkErr l i = 0
  rotate_left
  · rw [if_neg h0] at hp
    have q1 : (checkErr l i != 0) = true := by simp [h0]
    have HP := Lib.hid hp
    clear hp h0 hl hs
    generalize pickOf l i = T at *
    generalize checkErr l i = q at *
    go_enter Tryz.func17, Tryz.ntmps17
    go_wp2_with (fail)
    refine HC.out.mono ?_
    rintro r w1 ⟨rfl, hb1⟩
    go_wp2
    go_returns
    exact ⟨_, rfl, ⟨none, 0, by rw [HP.out]; rfl⟩, by rw [HP.out]; exact Reads.nilRow _ _ _ _, hb1⟩
  rw [if_pos h0] at hp
  have q1 : (checkErr l i != 0) = false := by rw [h0]; rfl
  have hall : listErr l = 0 ∧ 0 ≤ i ∧ i < (l.length : Int) := by
    unfold checkErr at h0
    split at h0
    · rename_i h1
      split at h0
      · cases h0
      · rename_i h2
        exact ⟨h1, by omega, by omega⟩
    · rename_i h1; exact absurd h0 h1
  have hF : ∀ e ∈ l, FitE e := by
    have key : ∀ (f : Nat → Int) (n k : Nat), nzFrom f n 0 = 0 → k < n → f k = 0 := by
      intro f n k h hk
      have : ∀ j, j ≤ n → nzFrom f n 0 = 0 → (∀ q, q < j → f q = 0) ∧ nzFrom f n j = 0 := by
        intro j
        induction j with
        | zero => intro _ h; exact ⟨fun q hq => by omega, h⟩
        | succ j ih =>
          intro hj h
          obtain ⟨h1, h2⟩ := ih (by omega) h
          rw [nzFrom_at f (show j < n by omega)] at h2
          split at h2
          · rename_i h3
            refine ⟨fun q hq => ?_, h2⟩
            rcases Nat.lt_or_ge q j with h4 | h4
            · exact h1 q h4
            · obtain rfl : q = j := by omega
              exact h3
          · rename_i h3; exact absurd h2 h3
      exact (this n (Nat.le_refl _) h).1 k hk
    intro e he
    obtain ⟨k, hk, rfl⟩ := List.mem_iff_getElem.1 he
    have := key _ _ k hall.1 hk
    rw [eAt_of (List.getElem?_eq_getElem hk)] at this
    exact fit_of this
  obtain ⟨j, rfl⟩ : ∃ j : Nat, i = (j : Int) := ⟨i.toNat, by omega⟩
  rw [Int.toNat_natCast] at hp
  have hj : j < l.length := by omega
  have HN := Lib.hid (fun W (h : Below w.heap.size w W) => cNeeded_any l j a c W (hl.below h) hF hn hj)
  have HP : Hid (pickOf l j = partE l (fun k => (needB l j).getD k false) l.length) := hp
  have HPS := Lib.hid (partE_succ l (fun k => (needB l j).getD k false))
  have HPL := Lib.hid (partE_len l (fun k => (needB l j).getD k false))
  have HP0 : Hid (partE l (fun k => (needB l j).getD k false) 0 = []) := rfl
  have H0 := Lib.hid h0
  clear hp hl hs hF hall h0
  generalize pickOf l (j : Int) = T at *
  generalize partE l (fun k => (needB l j).getD k false) = pf at *
  generalize needB l j = mm at *
  generalize checkErr l (j : Int) = q at *
  go_enter Tryz.func17, Tryz.ntmps17
  go_wp2_with (fail)
  refine HC.out.mono ?_
  rintro r w1 ⟨rfl, hb1⟩
  go_wp2_with (fail)
  refine (HN.out _ hb1).mono ?_
  rintro r w2 ⟨rfl, hlen, hm2, hb2⟩
  have hB2 := qtrans hb1 hb2
  have HL2 := Lib.hid hlen
  have HM2 := Lib.hid hm2
  have hsz2 := hm2.lt
  generalize hMM : w1.heap.size + 1 = M at *
  clear hlen hm2 hMM HC HN hb1 hb2
  go_wp2
  go_loopw [7, 20] (fun sv iv wr => ∃ k : Nat, k ≤ l.length ∧ iv = .int .i64 k ∧ Hid (OwnE w wr w2.heap.size sv (pf k)) ∧ Hid (Below w2.heap.size w2 wr)) (fun _ iv _ => l.length - (intOf iv).toNat)
  case atStart => exact ⟨0, Nat.zero_le _, rfl, by rw [HP0.out]; exact OwnE.nil _ _ _, qrefl _⟩
  case round =>
    obtain ⟨k, hkl, rfl, HO, HB⟩ := hrel
    by_cases hi : k < l.length
    · have hd : decide ((k : Int) < (l.length : Int)) = true := decide_eq_true (by omega)
      have hir : (k : Int) < (l.length : Int) := by omega
      have hmk := (HM2.out.below HB.out).cell (metC_at (k := k) (by have := HL2.out; omega))
      have hml := (HM2.out.below HB.out).lt
      have HS := Lib.hid (HPS.out k)
      have hlen := HPL.out k
      generalize mm.getD k false = mb at *
      have HO2 := HO.out
      obtain ⟨sa, sc, rfl⟩ := HO2.val
      have hsw := HB.out.size
      cases mb with
      | false =>
        rw [if_neg (by simp), List.append_nil] at HS
        go_wp2
        go_roundw
        case rel => exact ⟨k + 1, by omega, by go_num, by rw [HS.out]; exact HO.out, HB⟩
        case measure => simp [intOf]; omega
      | true =>
        rw [if_pos rfl] at HS
        obtain ⟨e, he⟩ : ∃ e, l[k]? = some e := ⟨_, List.getElem?_eq_getElem hi⟩
        rw [eAt_of he] at HS
        obtain ⟨b, o, ao, co, af, cf, rfl, hbl, x0', x1', x2', x3', x4', hin⟩ := cells_edit HL.out he
        have hwr : Below w.heap.size w wr := hB2.trans (HB.out.mono hB2.size)
        have x0 := (hwr.cell (p := ⟨b, _, none⟩) hbl).trans x0'
        have x1 := (hwr.cell (p := ⟨b, _, none⟩) hbl).trans x1'
        have x2 := (hwr.cell (p := ⟨b, _, none⟩) hbl).trans x2'
        have x3 := (hwr.cell (p := ⟨b, _, none⟩) hbl).trans x3'
        have x4 := (hwr.cell (p := ⟨b, _, none⟩) hbl).trans x4'
        have hbr : b < wr.heap.size := Nat.lt_of_lt_of_le hbl hwr.size
        obtain ⟨xs, hown, hxs⟩ := HO.out
        have HXS := Lib.hid hxs
        have HIN := hin
        have hA3 := qalloc wr (.cells #[.int .i64 e.kind, .string e.pack, .string e.text, .slice ao e.old.length co, .slice af e.fresh.length cf] 24)
        have HR3 := Lib.hid (owns_row (own_many wr wr.heap.size (Nat.le_refl _) 24 #[.int .i64 e.kind, .string e.pack, .string e.text, .slice ao e.old.length co, .slice af e.fresh.length cf] 5 1 rfl (by omega)))
        have HO3 := Lib.hid (owns_below hown hA3)
        have HA3 := Lib.hid hA3
        have hsz3 := hA3.size
        clear hA3 HO2 x0' x1' x2' x3' x4' he hwr hown hxs
        go_wp2_with (at_builtin; refine wpList_append_row rfl _ _ 26 rfl w2.heap.size 24 i0 _ 5 88 Tryz.underlying26 hi0 hz0 hz1 hz2 hzs (by decide) _ _ _ rfl HO3.out _ _ _ rfl HR3.out (by intro u hu; simp at hu; rcases hu with rfl | rfl | rfl | rfl | rfl <;> rfl) (by unfold maxLen; omega) (by omega) (by omega) ?_)
        intro v5 w5 hown5 hg5 hbk5
        have HB5 := Lib.hid (((HB.out.trans (HA3.out.mono hsw))).grown hg5 (by omega) (fun x hx => (HO3.out.lt x hx).1))
        have HO5 : Hid (OwnE w w5 w2.heap.size v5 (pf (k + 1))) := by
          show OwnE _ _ _ _ _
          rw [HS.out]
          exact OwnE.snoc HXS.out HIN.out hown5
        clear hown5 hg5 hbk5
        go_wp2
        go_roundw
        case rel => exact ⟨k + 1, by omega, by go_num, HO5, HB5⟩
        case measure => simp [intOf]; omega
    · have hd : decide ((k : Int) < (l.length : Int)) = false := decide_eq_false (by omega)
      obtain rfl : k = l.length := by omega
      have HO2 := HO.out
      obtain ⟨sa, sc, rfl⟩ := HO2.val
      have HRR := Lib.hid (HO2.reads (hB2.trans (HB.out.mono hB2.size)))
      clear HO2
      go_wp2
      go_returns
      exact ⟨_, by rw [H0.out]; rfl, ⟨sa, sc, by rw [HP.out]; rfl⟩, by rw [HP.out]; exact HRR.out, (hB2.trans (HB.out.mono hB2.size))⟩
set_option maxRecDepth 100000 in
set_option maxHeartbeats 8000000 in
theorem rPick_any (l : List OEdit) (i : Int) (a : Option Addr) (c : Nat) (w : World) (hl : Reads w [] (editsT l) (.slice a l.length c)) (hs : ∀ e ∈ l, SmE e) (hn : l.length ≤ 1000000) :
    Calls Tryz.prog 18 #[.slice a l.length c, .int .i64 i] w fun r w' => ∃ v, r = .returned (.tuple #[v, .int .i64 (checkErr l i)]) ∧ (∃ a' c', v = .slice a' (pickOf l i).length c') ∧ Reads w' [] (editsT (pickOf l i)) v ∧ Below w.heap.size w w' := by
  have HL := Lib.hid hl
  have HC := Lib.hid (fun W (h : Below w.heap.size w W) => r35Check_any l a c i W (hl.below h) hs hn)
  have hp : pickOf l i = if checkErr l i = 0 then pickE l i.toNat else [] := rfl
  obtain ⟨i0, z, hi0, hz0, hzs, hz1, hz2⟩ := info_parts' infoEdit
  have HN0 := Lib.hid (OwnE.nilA w)
  have HA0 := Lib.hid (qalloc w (.cells #[] 24))
  by_cases h0 : checkErr l i = 0
  rotate_left
  · rw [if_neg h0] at hp
    have q1 : (checkErr l i != 0) = true := by simp [h0]
    have HP := Lib.hid hp
    clear hp h0 hl hs
    generalize pickOf l i = T at *
    generalize checkErr l i = q at *
    go_enter Tryz.func18, Tryz.ntmps18
    go_wp2_with (fail)
    refine (HC.out _ HA0.out).mono ?_
    rintro r w1 ⟨rfl, hb1⟩
    go_wp2
    go_returns
    exact ⟨_, rfl, ⟨some ⟨w.heap.size, 0, none⟩, 0, by rw [HP.out]; rfl⟩, by rw [HP.out]; exact (HN0.out.below hb1).reads (qtrans HA0.out hb1), qtrans HA0.out hb1⟩
  rw [if_pos h0] at hp
  have q1 : (checkErr l i != 0) = false := by rw [h0]; rfl
  obtain ⟨hE, hi1, hi2⟩ := check_zero h0
  obtain ⟨j, rfl⟩ : ∃ j : Nat, i = (j : Int) := ⟨i.toNat, by omega⟩
  rw [Int.toNat_natCast] at hp
  have hj : j < l.length := by omega
  have HN := Lib.hid (fun W (h : Below w.heap.size w W) => r35Needed_any l j a c W (hl.below h) hs hE hn hj)
  have HP : Hid (pickOf l j = partE l (fun k => (needB l j).getD k false) l.length) := hp
  have HPS := Lib.hid (partE_succ l (fun k => (needB l j).getD k false))
  have HPL := Lib.hid (partE_len l (fun k => (needB l j).getD k false))
  have HP0 : Hid (partE l (fun k => (needB l j).getD k false) 0 = []) := rfl
  have H0 := Lib.hid h0
  have HMT := Lib.hid (fun B hB k => pick_met hj (B := B) hB k)
  clear hp hl hs hE h0 hi1 hi2
  generalize pickOf l (j : Int) = T at *
  generalize partE l (fun k => (needB l j).getD k false) = pf at *
  generalize needB l j = mm at *
  generalize checkErr l (j : Int) = q at *
  go_enter Tryz.func18, Tryz.ntmps18
  go_wp2_with (fail)
  refine (HC.out _ HA0.out).mono ?_
  rintro r w1 ⟨rfl, hb1⟩
  have HB1 := Lib.hid (qtrans HA0.out hb1)
  have HO1 := Lib.hid (HN0.out.below hb1)
  clear hb1 HC HN0 HA0
  go_wp2_with (fail)
  refine (HN.out _ HB1.out).mono ?_
  rintro r w2 ⟨B, rfl, hlen, hm2, hmet, hb2⟩
  have HB2 := Lib.hid (qtrans HB1.out hb2)
  have HO2 := Lib.hid (HO1.out.below hb2)
  have HL2 := Lib.hid hlen
  have HM2 := Lib.hid hm2
  have HMM := Lib.hid (HMT.out B hmet)
  have hsz2 := hm2.lt
  have hwM := HB1.out.size
  have hlw : w.heap.size < w1.heap.size := by
    have q := HO1.out.lt (q := w.heap.size) rfl
    omega
  generalize w1.heap.size = M at *
  clear hlen hm2 hmet HMT HN hb2 HB1 HO1
  go_wp2
  go_loopw [6, 9] (fun sv iv wr => ∃ k : Nat, k ≤ l.length ∧ iv = .int .i64 k ∧ Hid (OwnE w wr w.heap.size sv (pf k)) ∧ Hid (∀ q, sv.ownBlock = some q → q ≠ M) ∧ Hid (CBox wr M 4 (metC B)) ∧ Hid (Below w.heap.size w wr)) (fun _ iv _ => l.length - (intOf iv).toNat)
  case atStart => exact ⟨0, Nat.zero_le _, rfl, by rw [HP0.out]; exact HO2.out, fun q hq => by simp [Value.ownBlock] at hq; omega, HM2, HB2⟩
  case round =>
    obtain ⟨k, hkl, rfl, HO, HK, HM, HB⟩ := hrel
    clear HM2 HB2 HO2
    by_cases hi : k < l.length
    · have hd : decide ((k : Int) < (l.length : Int)) = true := decide_eq_true (by omega)
      have hir : (k : Int) < (l.length : Int) := by omega
      have hmk := HM.out.cell (metC_at (k := k) (by have := HL2.out; omega))
      have hml := HM.out.lt
      have HS := Lib.hid (HPS.out k)
      have hlen := HPL.out k
      rw [HMM.out k] at HS
      have hkj : ((k : Int) == (j : Int)) = (k == j) := by rw [Bool.eq_iff_iff]; simp; omega
      obtain ⟨kj, hkj2⟩ : ∃ kj, (k == j) = kj := ⟨_, rfl⟩
      rw [hkj2] at hkj HS
      clear hkj2
      generalize B.getD k false = mb0 at *
      have HO2 := HO.out
      obtain ⟨sa, sc, rfl⟩ := HO2.val
      have hsw := HB.out.size
      cases mb0 with
      | true =>
        rw [Bool.true_or] at HS
        rw [if_pos rfl] at HS
        obtain ⟨e, he⟩ : ∃ e, l[k]? = some e := ⟨_, List.getElem?_eq_getElem hi⟩
        rw [eAt_of he] at HS
        obtain ⟨b, o, ao, co, af, cf, rfl, hbl, x0', x1', x2', x3', x4', hin⟩ := cells_edit HL.out he
        have hwr : Below w.heap.size w wr := HB.out
        have x0 := (hwr.cell (p := ⟨b, _, none⟩) hbl).trans x0'
        have x1 := (hwr.cell (p := ⟨b, _, none⟩) hbl).trans x1'
        have x2 := (hwr.cell (p := ⟨b, _, none⟩) hbl).trans x2'
        have x3 := (hwr.cell (p := ⟨b, _, none⟩) hbl).trans x3'
        have x4 := (hwr.cell (p := ⟨b, _, none⟩) hbl).trans x4'
        have hbr : b < wr.heap.size := Nat.lt_of_lt_of_le hbl hwr.size
        obtain ⟨xs, hown, hxs⟩ := HO.out
        have HXS := Lib.hid hxs
        have HIN := hin
        have hA3 := qalloc wr (.cells #[.int .i64 e.kind, .string e.pack, .string e.text, .slice ao e.old.length co, .slice af e.fresh.length cf] 24)
        have HR3 := Lib.hid (owns_row (own_many wr wr.heap.size (Nat.le_refl _) 24 #[.int .i64 e.kind, .string e.pack, .string e.text, .slice ao e.old.length co, .slice af e.fresh.length cf] 5 1 rfl (by omega)))
        have HO3 := Lib.hid (owns_below hown hA3)
        have HM3 := Lib.hid (HM.out.below hA3)
        have HA3 := Lib.hid hA3
        have hsz3 := hA3.size
        clear hA3 HO2 x0' x1' x2' x3' x4' he hwr hown hxs
        go_wp2_with (at_builtin; refine wpList_append_row rfl _ _ 26 rfl w.heap.size 24 i0 _ 5 88 Tryz.underlying26 hi0 hz0 hz1 hz2 hzs (by decide) _ _ _ rfl HO3.out _ _ _ rfl HR3.out (by intro u hu; simp at hu; rcases hu with rfl | rfl | rfl | rfl | rfl <;> rfl) (by unfold maxLen; omega) (by omega) (by omega) ?_)
        intro v5 w5 hown5 hg5 hbk5
        have HB5 := Lib.hid (((HB.out.trans (HA3.out.mono hsw))).grown hg5 (by omega) (fun x hx => (HO3.out.lt x hx).1))
        have HO5 : Hid (OwnE w w5 w.heap.size v5 (pf (k + 1))) := by
          show OwnE _ _ _ _ _
          rw [HS.out]
          exact OwnE.snoc HXS.out HIN.out hown5
        have HM5 : Hid (CBox w5 M 4 (metC B)) := (hg5.block M HM3.out.lt (fun e => HK.out M e.symm rfl)).trans HM3.out
        have HK5 : Hid (∀ q, v5.ownBlock = some q → q ≠ M) := by
          show ∀ q, _
          intro q hq
          rcases hbk5 with e | e
          · exact HK.out q (e ▸ hq)
          · rw [e] at hq
            (try simp only [World.size_alloc] at hq)
            cases hq
            omega
        clear hown5 hg5 hbk5
        go_wp2
        go_roundw
        case rel => exact ⟨k + 1, by omega, by go_num, HO5, HK5, HM5, HB5⟩
        case measure => simp [intOf]; omega
      | false =>
        rw [Bool.false_or] at HS
        cases kj with
        | true =>
          rw [if_pos rfl] at HS
          obtain ⟨e, he⟩ : ∃ e, l[k]? = some e := ⟨_, List.getElem?_eq_getElem hi⟩
          rw [eAt_of he] at HS
          obtain ⟨b, o, ao, co, af, cf, rfl, hbl, x0', x1', x2', x3', x4', hin⟩ := cells_edit HL.out he
          have hwr : Below w.heap.size w wr := HB.out
          have x0 := (hwr.cell (p := ⟨b, _, none⟩) hbl).trans x0'
          have x1 := (hwr.cell (p := ⟨b, _, none⟩) hbl).trans x1'
          have x2 := (hwr.cell (p := ⟨b, _, none⟩) hbl).trans x2'
          have x3 := (hwr.cell (p := ⟨b, _, none⟩) hbl).trans x3'
          have x4 := (hwr.cell (p := ⟨b, _, none⟩) hbl).trans x4'
          have hbr : b < wr.heap.size := Nat.lt_of_lt_of_le hbl hwr.size
          obtain ⟨xs, hown, hxs⟩ := HO.out
          have HXS := Lib.hid hxs
          have HIN := hin
          have hA3 := qalloc wr (.cells #[.int .i64 e.kind, .string e.pack, .string e.text, .slice ao e.old.length co, .slice af e.fresh.length cf] 24)
          have HR3 := Lib.hid (owns_row (own_many wr wr.heap.size (Nat.le_refl _) 24 #[.int .i64 e.kind, .string e.pack, .string e.text, .slice ao e.old.length co, .slice af e.fresh.length cf] 5 1 rfl (by omega)))
          have HO3 := Lib.hid (owns_below hown hA3)
          have HM3 := Lib.hid (HM.out.below hA3)
          have HA3 := Lib.hid hA3
          have hsz3 := hA3.size
          clear hA3 HO2 x0' x1' x2' x3' x4' he hwr hown hxs
          go_wp2_with (at_builtin; refine wpList_append_row rfl _ _ 26 rfl w.heap.size 24 i0 _ 5 88 Tryz.underlying26 hi0 hz0 hz1 hz2 hzs (by decide) _ _ _ rfl HO3.out _ _ _ rfl HR3.out (by intro u hu; simp at hu; rcases hu with rfl | rfl | rfl | rfl | rfl <;> rfl) (by unfold maxLen; omega) (by omega) (by omega) ?_)
          intro v5 w5 hown5 hg5 hbk5
          have HB5 := Lib.hid (((HB.out.trans (HA3.out.mono hsw))).grown hg5 (by omega) (fun x hx => (HO3.out.lt x hx).1))
          have HO5 : Hid (OwnE w w5 w.heap.size v5 (pf (k + 1))) := by
            show OwnE _ _ _ _ _
            rw [HS.out]
            exact OwnE.snoc HXS.out HIN.out hown5
          have HM5 : Hid (CBox w5 M 4 (metC B)) := (hg5.block M HM3.out.lt (fun e => HK.out M e.symm rfl)).trans HM3.out
          have HK5 : Hid (∀ q, v5.ownBlock = some q → q ≠ M) := by
            show ∀ q, _
            intro q hq
            rcases hbk5 with e | e
            · exact HK.out q (e ▸ hq)
            · rw [e] at hq
              (try simp only [World.size_alloc] at hq)
              cases hq
              omega
          clear hown5 hg5 hbk5
          go_wp2
          go_roundw
          case rel => exact ⟨k + 1, by omega, by go_num, HO5, HK5, HM5, HB5⟩
          case measure => simp [intOf]; omega
        | false =>
          rw [if_neg (by simp), List.append_nil] at HS
          go_wp2
          go_roundw
          case rel => exact ⟨k + 1, by omega, by go_num, by rw [HS.out]; exact HO.out, HK, HM, HB⟩
          case measure => simp [intOf]; omega
    · have hd : decide ((k : Int) < (l.length : Int)) = false := decide_eq_false (by omega)
      obtain rfl : k = l.length := by omega
      have HO2 := HO.out
      obtain ⟨sa, sc, rfl⟩ := HO2.val
      have HRR := Lib.hid (HO2.reads HB.out)
      clear HO2
      go_wp2
      go_returns
      exact ⟨_, by rw [H0.out]; rfl, ⟨sa, sc, by rw [HP.out]; rfl⟩, by rw [HP.out]; exact HRR.out, HB.out⟩
end Go.Proofs.YtlcpdhionefmbaaGreatDoor

namespace Go.Proofs.YtlcpdhionefmbaaGreatDoor
open Go.RowKit Go.Shelf
attribute [local go_sem] Oper.semAt_some

/-- The edit k stays where the edit i is dropped. -/
def keepB (l : List OEdit) (i k : Nat) : Bool := !((needB l k).getD i false)
def dropE (l : List OEdit) (i : Nat) : List OEdit := partE l (keepB l i) l.length
def dropOf (l : List OEdit) (i : Int) : List OEdit := if checkErr l i = 0 then dropE l i.toNat else []
theorem keepB_same {l : List OEdit} {i : Nat} (hi : i < l.length) : keepB l i i = false := by
  unfold keepB
  rw [(needB_iff hi i).2 (.inl rfl)]; rfl
theorem keepB_low {l : List OEdit} {i k : Nat} (hk : k < l.length) (h : k < i) : keepB l i k = true := by
  unfold keepB
  cases hb : (needB l k).getD i false with
  | false => rfl
  | true =>
    rcases (needB_iff hk i).1 hb with h1 | h1
    · omega
    · have := h1.lt; omega
theorem keepB_high {l : List OEdit} {i k : Nat} (hk : k < l.length) (h : i < k) {B : List Bool} (hB : ∀ q, metB B q ↔ Reach l k q) : keepB l i k = !(B.getD i false) := by
  unfold keepB
  congr 1
  rw [Bool.eq_iff_iff, needB_iff hk i]
  have := hB i
  unfold metB at this
  rw [this]
  exact ⟨fun h1 => h1.elim (fun e => by omega) id, .inr⟩
/-- The first step of a chain. -/
theorem Reach.head {l : List OEdit} {k i : Nat} : Reach l k i ↔ i < k ∧ ∃ q, i ≤ q ∧ q < k ∧ (q = i ∨ Reach l q i) ∧ dep l q k = true := by
  constructor
  · intro h
    refine ⟨h.lt, ?_⟩
    induction h with
    | one h1 h2 => exact ⟨_, Nat.le_refl _, h1, .inl rfl, h2⟩
    | more h1 h2 h3 ih =>
      obtain ⟨q, q1, q2, q3, q4⟩ := ih
      refine ⟨q, by omega, q2, .inr ?_, q4⟩
      rcases q3 with rfl | q3
      · exact .one h1 h2
      · exact .more h1 h2 q3
  · rintro ⟨h, q, q1, q2, q3 | q3, q4⟩
    · subst q3; exact .one q2 q4
    · exact q3.trans (.one q2 q4)
set_option maxRecDepth 100000 in
set_option maxHeartbeats 8000000 in
theorem rDrop_any (l : List OEdit) (i : Int) (a : Option Addr) (c : Nat) (w : World) (hl : Reads w [] (editsT l) (.slice a l.length c)) (hs : ∀ e ∈ l, SmE e) (hn : l.length ≤ 1000000) :
    Calls Tryz.prog 20 #[.slice a l.length c, .int .i64 i] w fun r w' => ∃ v, r = .returned (.tuple #[v, .int .i64 (checkErr l i)]) ∧ (∃ a' c', v = .slice a' (dropOf l i).length c') ∧ Reads w' [] (editsT (dropOf l i)) v ∧ Below w.heap.size w w' := by
  have HL := Lib.hid hl
  have HC := Lib.hid (fun W (h : Below w.heap.size w W) => r35Check_any l a c i W (hl.below h) hs hn)
  have hp : dropOf l i = if checkErr l i = 0 then dropE l i.toNat else [] := rfl
  obtain ⟨i0, z, hi0, hz0, hzs, hz1, hz2⟩ := info_parts' infoEdit
  have HN0 := Lib.hid (OwnE.nilA w)
  have HA0 := Lib.hid (qalloc w (.cells #[] 24))
  by_cases h0 : checkErr l i = 0
  rotate_left
  · rw [if_neg h0] at hp
    have q1 : (checkErr l i != 0) = true := by simp [h0]
    have HP := Lib.hid hp
    clear hp h0 hl hs
    generalize dropOf l i = T at *
    generalize checkErr l i = q at *
    go_enter Tryz.func20, Tryz.ntmps20
    go_wp2_with (fail)
    refine (HC.out _ HA0.out).mono ?_
    rintro r w1 ⟨rfl, hb1⟩
    go_wp2
    go_returns
    exact ⟨_, rfl, ⟨some ⟨w.heap.size, 0, none⟩, 0, by rw [HP.out]; rfl⟩, by rw [HP.out]; exact (HN0.out.below hb1).reads (qtrans HA0.out hb1), qtrans HA0.out hb1⟩
  rw [if_pos h0] at hp
  have q1 : (checkErr l i != 0) = false := by rw [h0]; rfl
  obtain ⟨hE, hi1, hi2⟩ := check_zero h0
  obtain ⟨j, rfl⟩ : ∃ j : Nat, i = (j : Int) := ⟨i.toNat, by omega⟩
  rw [Int.toNat_natCast] at hp
  have hj : j < l.length := by omega
  have HN := Lib.hid (fun k (hk : k < l.length) W (h : Below w.heap.size w W) => r35Needed_any l k a c W (hl.below h) hs hE hn hk)
  have HP : Hid (dropOf l j = partE l (keepB l j) l.length) := hp
  have HPS := Lib.hid (partE_succ l (keepB l j))
  have HPL := Lib.hid (partE_len l (keepB l j))
  have HP0 : Hid (partE l (keepB l j) 0 = []) := rfl
  have H0 := Lib.hid h0
  have HK1 := Lib.hid (keepB_same hj)
  have HK2 := Lib.hid (fun k (hk : k < l.length) (h : k < j) => keepB_low (i := j) hk h)
  have HK3 := Lib.hid (fun k (hk : k < l.length) (h : j < k) B hB => keepB_high (i := j) hk h (B := B) hB)
  clear hp hl hs hE h0 hi1 hi2
  generalize dropOf l (j : Int) = T at *
  generalize partE l (keepB l j) = pf at *
  generalize keepB l j = kp at *
  generalize checkErr l (j : Int) = q at *
  go_enter Tryz.func20, Tryz.ntmps20
  go_wp2_with (fail)
  refine (HC.out _ HA0.out).mono ?_
  rintro r w1 ⟨rfl, hb1⟩
  have HB1 := Lib.hid (qtrans HA0.out hb1)
  have HO1 := Lib.hid (HN0.out.below hb1)
  clear hb1 HC HN0 HA0
  go_wp2
  go_loopw [6, 8] (fun sv iv wr => ∃ k : Nat, k ≤ l.length ∧ iv = .int .i64 k ∧ Hid (OwnE w wr w.heap.size sv (pf k)) ∧ Hid (Below w.heap.size w wr)) (fun _ iv _ => l.length - (intOf iv).toNat)
  case atStart => exact ⟨0, Nat.zero_le _, rfl, by rw [HP0.out]; exact HO1.out, HB1⟩
  case round =>
    obtain ⟨k, hkl, rfl, HO, HB⟩ := hrel
    clear HO1 HB1
    by_cases hi : k < l.length
    · have hd : decide ((k : Int) < (l.length : Int)) = true := decide_eq_true (by omega)
      have hir : (k : Int) < (l.length : Int) := by omega
      have HS := Lib.hid (HPS.out k)
      have hlen := HPL.out k
      have HO2 := HO.out
      obtain ⟨sa, sc, rfl⟩ := HO2.val
      have hsw := HB.out.size
      by_cases hkj : k = j
      · have q5 : ((k : Int) != (j : Int)) = false := by rw [hkj]; simp
        rw [hkj, HK1.out, ← hkj] at HS
        clear hkj
        rw [if_neg (by simp), List.append_nil] at HS
        go_wp2
        go_roundw
        case rel => exact ⟨k + 1, by omega, by go_num, by rw [HS.out]; exact HO.out, HB⟩
        case measure => simp [intOf]; omega
      have q5 : ((k : Int) != (j : Int)) = true := bne_iff_ne.2 (by omega)
      by_cases hlt : k < j
      · have q6 : decide ((k : Int) < (j : Int)) = true := decide_eq_true (by omega)
        have q7 : decide (k < j) = true := decide_eq_true hlt
        rw [HK2.out k hi hlt] at HS
        clear hkj hlt
        rw [if_pos rfl] at HS
        obtain ⟨e, he⟩ : ∃ e, l[k]? = some e := ⟨_, List.getElem?_eq_getElem hi⟩
        rw [eAt_of he] at HS
        obtain ⟨b, o, ao, co, af, cf, rfl, hbl, x0', x1', x2', x3', x4', hin⟩ := cells_edit HL.out he
        have hwr : Below w.heap.size w wr := HB.out
        have x0 := (hwr.cell (p := ⟨b, _, none⟩) hbl).trans x0'
        have x1 := (hwr.cell (p := ⟨b, _, none⟩) hbl).trans x1'
        have x2 := (hwr.cell (p := ⟨b, _, none⟩) hbl).trans x2'
        have x3 := (hwr.cell (p := ⟨b, _, none⟩) hbl).trans x3'
        have x4 := (hwr.cell (p := ⟨b, _, none⟩) hbl).trans x4'
        have hbr : b < wr.heap.size := Nat.lt_of_lt_of_le hbl hwr.size
        obtain ⟨xs, hown, hxs⟩ := HO.out
        have HXS := Lib.hid hxs
        have HIN := hin
        have hA3 := qalloc wr (.cells #[.int .i64 e.kind, .string e.pack, .string e.text, .slice ao e.old.length co, .slice af e.fresh.length cf] 24)
        have HR3 := Lib.hid (owns_row (own_many wr wr.heap.size (Nat.le_refl _) 24 #[.int .i64 e.kind, .string e.pack, .string e.text, .slice ao e.old.length co, .slice af e.fresh.length cf] 5 1 rfl (by omega)))
        have HO3 := Lib.hid (owns_below hown hA3)
        have HA3 := Lib.hid hA3
        have hsz3 := hA3.size
        clear hA3 HO2 x0' x1' x2' x3' x4' he hwr hown hxs
        go_wp2_with (at_builtin; refine wpList_append_row rfl _ _ 26 rfl w.heap.size 24 i0 _ 5 88 Tryz.underlying26 hi0 hz0 hz1 hz2 hzs (by decide) _ _ _ rfl HO3.out _ _ _ rfl HR3.out (by intro u hu; simp at hu; rcases hu with rfl | rfl | rfl | rfl | rfl <;> rfl) (by unfold maxLen; omega) (by omega) (by omega) ?_)
        intro v5 w5 hown5 hg5 hbk5
        have HB5 := Lib.hid (((HB.out.trans (HA3.out.mono hsw))).grown hg5 (by omega) (fun x hx => (HO3.out.lt x hx).1))
        have HO5 : Hid (OwnE w w5 w.heap.size v5 (pf (k + 1))) := by
          show OwnE _ _ _ _ _
          rw [HS.out]
          exact OwnE.snoc HXS.out HIN.out hown5
        clear hown5 hg5 hbk5
        go_wp2
        go_roundw
        case rel => exact ⟨k + 1, by omega, by go_num, HO5, HB5⟩
        case measure => simp [intOf]; omega
      have q6 : decide ((k : Int) < (j : Int)) = false := decide_eq_false (by omega)
      have q7 : decide (k < j) = false := decide_eq_false hlt
      have hjl : (j : Int) < (l.length : Int) := by omega
      have HOW := Lib.hid HO2
      clear HO2
      go_wp2_with (fail)
      refine (HN.out k hi wr HB.out).mono ?_
      rintro r w2 ⟨B, rfl, hlB, hm2, hmet, hb2⟩
      have hbj := hm2.cell (metC_at (k := j) (by omega))
      have hbl2 := hm2.lt
      rw [HK3.out k hi (by omega) B hmet] at HS
      have HO := Lib.hid (HOW.out.below hb2)
      have HB := Lib.hid (HB.out.trans (hb2.mono HB.out.size))
      clear HOW hlB hm2 hmet hb2 hkj hlt
      generalize wr.heap.size = M at *
      generalize wr = wo at *
      generalize hww : w2 = wr at *
      clear hww
      have hsw := HB.out.size
      have HO2 := HO.out
      generalize B.getD j false = mb at *
      cases mb with
      | true =>
        rw [Bool.not_true] at HS
        rw [if_neg (by simp), List.append_nil] at HS
        go_wp2
        go_roundw
        case rel => exact ⟨k + 1, by omega, by go_num, by rw [HS.out]; exact HO.out, HB⟩
        case measure => simp [intOf]; omega
      | false =>
        rw [Bool.not_false] at HS
        rw [if_pos rfl] at HS
        obtain ⟨e, he⟩ : ∃ e, l[k]? = some e := ⟨_, List.getElem?_eq_getElem hi⟩
        rw [eAt_of he] at HS
        obtain ⟨b, o, ao, co, af, cf, rfl, hbl, x0', x1', x2', x3', x4', hin⟩ := cells_edit HL.out he
        have hwr : Below w.heap.size w wr := HB.out
        have x0 := (hwr.cell (p := ⟨b, _, none⟩) hbl).trans x0'
        have x1 := (hwr.cell (p := ⟨b, _, none⟩) hbl).trans x1'
        have x2 := (hwr.cell (p := ⟨b, _, none⟩) hbl).trans x2'
        have x3 := (hwr.cell (p := ⟨b, _, none⟩) hbl).trans x3'
        have x4 := (hwr.cell (p := ⟨b, _, none⟩) hbl).trans x4'
        have hbr : b < wr.heap.size := Nat.lt_of_lt_of_le hbl hwr.size
        obtain ⟨xs, hown, hxs⟩ := HO.out
        have HXS := Lib.hid hxs
        have HIN := hin
        have hA3 := qalloc wr (.cells #[.int .i64 e.kind, .string e.pack, .string e.text, .slice ao e.old.length co, .slice af e.fresh.length cf] 24)
        have HR3 := Lib.hid (owns_row (own_many wr wr.heap.size (Nat.le_refl _) 24 #[.int .i64 e.kind, .string e.pack, .string e.text, .slice ao e.old.length co, .slice af e.fresh.length cf] 5 1 rfl (by omega)))
        have HO3 := Lib.hid (owns_below hown hA3)
        have HA3 := Lib.hid hA3
        have hsz3 := hA3.size
        clear hA3 HO2 x0' x1' x2' x3' x4' he hwr hown hxs
        go_wp2_with (at_builtin; refine wpList_append_row rfl _ _ 26 rfl w.heap.size 24 i0 _ 5 88 Tryz.underlying26 hi0 hz0 hz1 hz2 hzs (by decide) _ _ _ rfl HO3.out _ _ _ rfl HR3.out (by intro u hu; simp at hu; rcases hu with rfl | rfl | rfl | rfl | rfl <;> rfl) (by unfold maxLen; omega) (by omega) (by omega) ?_)
        intro v5 w5 hown5 hg5 hbk5
        have HB5 := Lib.hid (((HB.out.trans (HA3.out.mono hsw))).grown hg5 (by omega) (fun x hx => (HO3.out.lt x hx).1))
        have HO5 : Hid (OwnE w w5 w.heap.size v5 (pf (k + 1))) := by
          show OwnE _ _ _ _ _
          rw [HS.out]
          exact OwnE.snoc HXS.out HIN.out hown5
        clear hown5 hg5 hbk5
        go_wp2
        go_roundw
        case rel => exact ⟨k + 1, by omega, by go_num, HO5, HB5⟩
        case measure => simp [intOf]; omega
    · have hd : decide ((k : Int) < (l.length : Int)) = false := decide_eq_false (by omega)
      obtain rfl : k = l.length := by omega
      have HO2 := HO.out
      obtain ⟨sa, sc, rfl⟩ := HO2.val
      have HRR := Lib.hid (HO2.reads HB.out)
      clear HO2
      go_wp2
      go_returns
      exact ⟨_, by rw [H0.out]; rfl, ⟨sa, sc, by rw [HP.out]; rfl⟩, by rw [HP.out]; exact HRR.out, HB.out⟩
end Go.Proofs.YtlcpdhionefmbaaGreatDoor

namespace Go.Proofs.YtlcpdhionefmbaaGreatDoor
open Go.RowKit Go.Shelf
attribute [local go_sem] Oper.semAt_some

theorem set_self_getD {B : List Bool} {k : Nat} : B.set k (B.getD k false) = B := by
  apply List.ext_getElem?
  intro q
  rw [List.getElem?_set]
  split
  · rename_i h
    subst h
    split
    · rename_i h2; rw [List.getD_eq_getElem?_getD, List.getElem?_eq_getElem h2]; rfl
    · rename_i h2; rw [List.getElem?_eq_none (by omega)]
  · rfl
theorem OwnE.mod {w0 w w' : World} {B : Nat} {v : Value} {l : List OEdit} {X : List Nat} (h : OwnE w0 w B v l) (m : Mod X w w') (hx : ∀ k ∈ X, k < B) : OwnE w0 w' B v l := by
  obtain ⟨xs, h1, h2⟩ := h; exact ⟨xs, owns_modB h1 m hx, h2⟩
set_option maxRecDepth 100000 in
set_option maxHeartbeats 8000000 in
theorem cDrop_any (l : List OEdit) (i : Int) (a : Option Addr) (c : Nat) (w : World) (hl : Reads w [] (editsT l) (.slice a l.length c)) (hs : ∀ e ∈ l, SmE e) (hn : l.length ≤ 1000000) :
    Calls Tryz.prog 19 #[.slice a l.length c, .int .i64 i] w fun r w' => ∃ v, r = .returned (.tuple #[v, .int .i64 (checkErr l i)]) ∧ (∃ a' c', v = .slice a' (dropOf l i).length c') ∧ Reads w' [] (editsT (dropOf l i)) v ∧ Below w.heap.size w w' := by
  have HL := Lib.hid hl
  have HC := Lib.hid (cCheck_any l a c i w hl hs hn)
  have hp : dropOf l i = if checkErr l i = 0 then dropE l i.toNat else [] := rfl
  obtain ⟨i0, z, hi0, hz0, hzs, hz1, hz2⟩ := info_parts' infoEdit
  by_cases h0 : checkErr l i = 0
  rotate_left
  · rw [if_neg h0] at hp
    have q1 : (checkErr l i != 0) = true := by simp [h0]
    have HP := Lib.hid hp
    clear hp h0 hl hs
    generalize dropOf l i = T at *
    generalize checkErr l i = q at *
    go_enter Tryz.func19, Tryz.ntmps19
    go_wp2_with (fail)
    refine HC.out.mono ?_
    rintro r w1 ⟨rfl, hb1⟩
    go_wp2
    go_returns
    exact ⟨_, rfl, ⟨none, 0, by rw [HP.out]; rfl⟩, by rw [HP.out]; exact Reads.nilRow _ _ _ _, hb1⟩
  rw [if_pos h0] at hp
  have q1 : (checkErr l i != 0) = false := by rw [h0]; rfl
  obtain ⟨hE, hi1, hi2⟩ := check_zero h0
  obtain ⟨j, rfl⟩ : ∃ j : Nat, i = (j : Int) := ⟨i.toNat, by omega⟩
  rw [Int.toNat_natCast] at hp
  have hj : j < l.length := by omega
  have HF := Lib.hid (fun e (he : e ∈ l) => fit_of (hE e he))
  have HP : Hid (dropOf l j = partE l (keepB l j) l.length) := hp
  have HPS := Lib.hid (partE_succ l (keepB l j))
  have HPL := Lib.hid (partE_len l (keepB l j))
  have HP0 : Hid (partE l (keepB l j) 0 = []) := rfl
  have H0 := Lib.hid h0
  have HKP : Hid (∀ k, k < l.length → (keepB l j k = false ↔ (k = j ∨ Reach l k j))) := fun k hk => by
    unfold keepB
    rw [Bool.not_eq_false', needB_iff hk j]
    exact ⟨fun h => h.elim (fun e => .inl e.symm) .inr, fun h => h.elim (fun e => .inl e.symm) .inr⟩
  obtain ⟨ib0, hib0, hb0⟩ := Option.map_eq_some_iff.1 infoBool
  injection hb0 with hz9 hb0
  injection hb0 with hz91 hz92
  obtain ⟨z9, hz90, hzc⟩ := Option.map_eq_some_iff.1 hz9
  have HMK := Lib.hid (fun W => run_make (P := Tryz.prog) W 57 4 ib0 z9 Tryz.underlying57 hib0 hz90 .i64 .i64 (l.length : Int) (l.length : Int) (by omega) (Int.le_refl _) (by rw [hz92]; omega) (by omega))
  clear hp hl hs hE h0 hi1 hi2
  generalize dropOf l (j : Int) = T at *
  generalize partE l (keepB l j) = pf at *
  generalize keepB l j = kp at *
  generalize checkErr l (j : Int) = q at *
  go_enter Tryz.func19, Tryz.ntmps19
  go_wp2_with (fail)
  refine HC.out.mono ?_
  rintro r w1 ⟨rfl, hb1⟩
  have hmk := HMK.out w1
  simp only [Int.toNat_natCast, hz91, hzc, made_bools] at hmk
  have HB1 := Lib.hid hb1
  have hjl : (j : Int) < (l.length : Int) := by omega
  clear hb1 HC HMK hz9 hz91 hz92 hz90 hzc hib0
  go_upto_region 5 with (fail)
  clear hmk
  have hA2 := qalloc w1 (.cells (metC (List.replicate l.length false)) 4)
  have hM2 := CBox.new w1 4 (metC (List.replicate l.length false))
  have HB2 := Lib.hid (qtrans HB1.out hA2)
  have hwM := HB1.out.size
  generalize w1.alloc (.cells (metC (List.replicate l.length false)) 4) = w2 at *
  generalize w1.heap.size = M at *
  have HM2 := Lib.hid hM2
  have hc2 := hM2.cell (metC_at (k := j) (by simpa using hj))
  have hf2 := hM2.frozen j
  have hl2 := hM2.lt
  clear hA2 hM2 HB1
  go_upto_region 6 with (fail)
  have HM3 : Hid (CBox (w2.setCell ⟨M, j, none⟩ (.bool true)) M 4 (metC ((List.replicate l.length false).set j true))) := by
    show CBox _ _ _ _
    rw [← metC_setb]
    exact HM2.out.set j _
  have HB3 : Hid (Below w.heap.size w (w2.setCell ⟨M, j, none⟩ (.bool true))) := HB2.out.trans (((Mod.refl [M] w2).setCell (p := ⟨M, j, none⟩) (by simp) _).upto HB2.out.size (by intro q hq; simp at hq; omega))
  clear hc2 hf2 hl2 HM2 HB2
  generalize w2.setCell ⟨M, j, none⟩ (.bool true) = w3 at *
  have HBS3 : Hid (∀ q, metB ((List.replicate l.length false).set j true) q ↔ (q = j ∨ (q < 0 ∧ Reach l q j))) := fun q => by
    rw [metB_set (by simpa using hj)]
    exact ⟨fun h => h.elim .inl (fun h => absurd h (metB_none _ _)), fun h => h.elim .inl (fun h => by omega)⟩
  have HBL3 : Hid (((List.replicate l.length false).set j true).length = l.length) := by show _ = _; simp
  generalize (List.replicate l.length false).set j true = B3 at *
  go_wp2
  go_loopw [8, 26] (fun sv iv wr => ∃ (k : Nat) (B : List Bool), k ≤ l.length ∧ iv = .int .i64 k ∧ Hid (B.length = l.length) ∧ Hid (∀ q, metB B q ↔ (q = j ∨ (q < k ∧ Reach l q j))) ∧ Hid (CBox wr M 4 (metC B)) ∧ Hid (OwnE w wr (M + 1) sv (pf k)) ∧ Hid (Below w.heap.size w wr)) (fun _ iv _ => l.length - (intOf iv).toNat)
  case atStart => exact ⟨0, B3, Nat.zero_le _, rfl, HBL3, HBS3, HM3, by rw [HP0.out]; exact OwnE.nil _ _ _, HB3⟩
  case round =>
    obtain ⟨k, B, hkl, rfl, HBL, HBS, HM, HO, HB⟩ := hrel
    clear HBL3 HBS3 HM3 HB3
    by_cases hi : k < l.length
    · have hd : decide ((k : Int) < (l.length : Int)) = true := decide_eq_true (by omega)
      have hir : (k : Int) < (l.length : Int) := by omega
      obtain ⟨e, he⟩ : ∃ e, l[k]? = some e := ⟨_, List.getElem?_eq_getElem hi⟩
      obtain ⟨b, o, ao, co, af, cf, rfl, hbl, x0', x1', x2', x3', x4', hin⟩ := cells_edit HL.out he
      have x0 := (HB.out.cell (p := ⟨b, _, none⟩) hbl).trans x0'
      have x1 := (HB.out.cell (p := ⟨b, _, none⟩) hbl).trans x1'
      have x2 := (HB.out.cell (p := ⟨b, _, none⟩) hbl).trans x2'
      have x3 := (HB.out.cell (p := ⟨b, _, none⟩) hbl).trans x3'
      have x4 := (HB.out.cell (p := ⟨b, _, none⟩) hbl).trans x4'
      have hbr : b < wr.heap.size := Nat.lt_of_lt_of_le hbl HB.out.size
      have HEE := Lib.hid he
      have hA := qalloc wr (.cells #[.int .i64 e.kind, .string e.pack, .string e.text, .slice ao e.old.length co, .slice af e.fresh.length cf] 24)
      have HX := Lib.hid (CBox.new wr 24 #[.int .i64 e.kind, .string e.pack, .string e.text, .slice ao e.old.length co, .slice af e.fresh.length cf])
      have HMA := Lib.hid (HM.out.below hA)
      have HOA := Lib.hid (HO.out.below hA)
      have HBA := Lib.hid (HB.out.trans (hA.mono HB.out.size))
      have hMX := HM.out.lt
      have HLEN := Lib.hid (HPL.out k)
      have HSV := Lib.hid HO.out.val
      clear he x0' x1' x2' x3' x4' hA HM HO HB
      go_upto_region 10 with (fail)
      generalize wr.alloc (.cells #[.int .i64 e.kind, .string e.pack, .string e.text, .slice ao e.old.length co, .slice af e.fresh.length cf] 24) = wo at *
      generalize wr.heap.size = X at *
      clear x0 x1 x2 x3 x4 hbr
      go_wp2
      go_loopw [11] (fun jv wr => ∃ (m : Nat) (bb : Bool), j ≤ m ∧ (m = j ∨ m ≤ k) ∧ jv = .int .i64 (m : Int) ∧ Hid (bb = true ↔ (k = j ∨ ∃ q, j ≤ q ∧ q < m ∧ q < k ∧ metB B q ∧ dep l q k = true)) ∧ Hid (CBox wr M 4 (metC (B.set k bb))) ∧ Hid (Mod [M] wo wr)) (fun jv _ => k - (intOf jv).toNat)
      case atStart => exact ⟨j, B.getD k false, Nat.le_refl _, .inl rfl, rfl, (HBS.out k).trans ⟨fun h => h.elim .inl (fun h => by omega), fun h => h.elim .inl (fun ⟨q, q1, q2, _⟩ => by omega)⟩, by rw [set_self_getD]; exact HMA.out, Mod.refl _ _⟩
      case round =>
        obtain ⟨m, bb, hjm, hmk, rfl, HBB, HM, HMO⟩ := hrel
        have hml := HM.out.lt
        have z0 := HM.out.cell (metC_at (k := k) (by have := HBL.out; simp; omega))
        rw [show (B.set k bb).getD k false = bb by rw [List.getD_eq_getElem?_getD, List.getElem?_set_self (by have := HBL.out; omega)]; rfl] at z0
        by_cases hgo : m < k ∧ bb = false
        · obtain ⟨hmk2, rfl⟩ := hgo
          have hd2 : decide ((m : Int) < (k : Int)) = true := decide_eq_true (by omega)
          have hd3 : decide (m < k) = true := decide_eq_true hmk2
          have hmn : m < l.length := by omega
          have hml' : (m : Int) < (l.length : Int) := by omega
          obtain ⟨g, hg⟩ : ∃ g, l[m]? = some g := ⟨_, List.getElem?_eq_getElem hmn⟩
          obtain ⟨b2, o2, go, gc, gf, gd, ha, hbl2, y0, y1, y2, y3, y4, hig⟩ := cells_edit HL.out hg
          injection ha with ha
          injection ha with ha1 ha2
          subst ha1 ha2
          have HWR := Lib.hid (HBA.out.trans (HMO.out.upto HBA.out.size (by intro q hq; simp at hq; omega)))
          have HC := Lib.hid (fun w' (h' : Below w.heap.size w w') => cIndep_any g e go gc gf gd ao co af cf w' (hig.out.below h') (hin.out.below h') (HF.out g (List.mem_of_getElem? hg)) (HF.out e (List.mem_of_getElem? HEE.out)))
          have hdp : (!indepB g e) = dep l m k := by unfold dep; rw [eAt_of hg, eAt_of HEE.out]
          have HDP := Lib.hid hdp
          have HBM := Lib.hid (show B.getD m false = true ↔ _ from HBS.out m)
          have HN : Hid ((B.getD m false && dep l m k) = true ↔ (k = j ∨ ∃ q, j ≤ q ∧ q < m + 1 ∧ q < k ∧ metB B q ∧ dep l q k = true)) := by
            show _ ↔ _
            have h1 := HBB.out
            rw [Bool.and_eq_true]
            constructor
            · rintro ⟨h2, h3⟩; exact .inr ⟨m, hjm, by omega, hmk2, h2, h3⟩
            · rintro (h2 | ⟨q, q1, q2, q3, q4, q5⟩)
              · exact absurd (h1.2 (.inl h2)) (by simp)
              · rcases Nat.lt_or_ge q m with h5 | h5
                · exact absurd (h1.2 (.inr ⟨q, q1, h5, q3, q4, q5⟩)) (by simp)
                · obtain rfl : q = m := by omega
                  exact ⟨q4, q5⟩
          have z1 := HM.out.cell (metC_at (k := m) (by have := HBL.out; simp; omega))
          rw [show (B.set k false).getD m false = B.getD m false by rw [List.getD_eq_getElem?_getD, List.getElem?_set_ne (by omega), ← List.getD_eq_getElem?_getD]] at z1
          have hXr := HX.out.mod HMO.out (by simp; omega)
          have HXR := Lib.hid hXr
          have HMX := Lib.hid hMX
          clear hig hg hdp hbl2 hXr HBM
          unfold editV at HC
          generalize indepB g e = ib at *
          generalize B.getD m false = mb at *
          have SW : Hid (∀ W : World, Below wr.heap.size wr W → (W.cell? ⟨b, o + m * 5, none⟩ = some (.int .i64 g.kind) ∧ W.cell? ⟨b, o + m * 5 + 1, none⟩ = some (.string g.pack) ∧ W.cell? ⟨b, o + m * 5 + 2, none⟩ = some (.string g.text) ∧ W.cell? ⟨b, o + m * 5 + 3, none⟩ = some (.slice go g.old.length gc) ∧ W.cell? ⟨b, o + m * 5 + 4, none⟩ = some (.slice gf g.fresh.length gd) ∧ W.cell? ⟨X, 0, none⟩ = some (.int .i64 e.kind) ∧ W.cell? ⟨X, 1, none⟩ = some (.string e.pack) ∧ W.cell? ⟨X, 2, none⟩ = some (.string e.text) ∧ W.cell? ⟨X, 3, none⟩ = some (.slice ao e.old.length co) ∧ W.cell? ⟨X, 4, none⟩ = some (.slice af e.fresh.length cf) ∧ W.cell? ⟨M, m, none⟩ = some (.bool mb) ∧ b < W.heap.size ∧ X < W.heap.size ∧ M < W.heap.size)) := Lib.hid (fun W hW => by
            have q := HWR.out.trans (hW.mono HWR.out.size)
            have hX2 := HXR.out.below hW
            exact ⟨(q.cell (p := ⟨b, _, none⟩) hbl).trans y0, (q.cell (p := ⟨b, _, none⟩) hbl).trans y1, (q.cell (p := ⟨b, _, none⟩) hbl).trans y2, (q.cell (p := ⟨b, _, none⟩) hbl).trans y3, (q.cell (p := ⟨b, _, none⟩) hbl).trans y4, hX2.cell (i := 0) rfl, hX2.cell (i := 1) rfl, hX2.cell (i := 2) rfl, hX2.cell (i := 3) rfl, hX2.cell (i := 4) rfl, (hW.cell (p := ⟨M, _, none⟩) hml).trans z1, Nat.lt_of_lt_of_le hbl q.size, hX2.lt, Nat.lt_of_lt_of_le hml hW.size⟩)
          have hdr : Below wr.heap.size wr wr.drew := (Mod.refl [] wr).drew.below
          clear y0 y1 y2 y3 y4 z1
          go_upto_region 13 with (fail)
          clear z0
          refine wp_region_noPanic (region_lexT (fun W : World => W.cell? ⟨b, o + m * 5, none⟩ = some (.int .i64 g.kind) ∧ W.cell? ⟨b, o + m * 5 + 1, none⟩ = some (.string g.pack) ∧ W.cell? ⟨b, o + m * 5 + 2, none⟩ = some (.string g.text) ∧ W.cell? ⟨b, o + m * 5 + 3, none⟩ = some (.slice go g.old.length gc) ∧ W.cell? ⟨b, o + m * 5 + 4, none⟩ = some (.slice gf g.fresh.length gd) ∧ W.cell? ⟨X, 0, none⟩ = some (.int .i64 e.kind) ∧ W.cell? ⟨X, 1, none⟩ = some (.string e.pack) ∧ W.cell? ⟨X, 2, none⟩ = some (.string e.text) ∧ W.cell? ⟨X, 3, none⟩ = some (.slice ao e.old.length co) ∧ W.cell? ⟨X, 4, none⟩ = some (.slice af e.fresh.length cf) ∧ W.cell? ⟨M, m, none⟩ = some (.bool mb) ∧ b < W.heap.size ∧ X < W.heap.size ∧ M < W.heap.size) [true, true, true, true, true, true, true, true, true, true, true, true, false, true, true, true] mixedK (by kernel_rfl) (fun _ _ _ _ _ h => h) (SW.out _ hdr) (fun hHeld => ?_))
          cases mb with
          | false =>
            iterate 16 (first | (refine lexT_skip (by rfl) ?_; (try simp only [Act.put, List.setIfInBounds_toArray, List.set_cons_zero, List.set_cons_succ])) | (refine lexT_take (v := ?_) (by rfl) ?_ ?_; rotate_left; (focus (intro wq hSw; (try dsimp only at hSw); go_simp; (try with_reducible rfl))); (try simp only [Act.put, List.setIfInBounds_toArray, List.set_cons_zero, List.set_cons_succ])))
            refine lexT_end ?_
            clear hHeld
            generalize wr.drew = wd at *
            have g0 := HM.out.below hdr
            have hc0 := g0.cell (metC_at (k := k) (by have := HBL.out; simp; omega))
            have hfz := g0.frozen k
            have hgl := g0.lt
            have HO4 := Lib.hid (HMO.out.trans (Mod.of hdr))
            have HG := Lib.hid g0
            clear g0 SW
            have HC9 : Hid (CBox (wd.setCell ⟨M, k, none⟩ (.bool false)) M 4 (metC (B.set k (false && dep l m k)))) := by
              show CBox _ _ _ _
              have q := HG.out.set k (.bool false)
              rw [metC_setb, List.set_set] at q
              exact q
            have HO9 := Lib.hid (HO4.out.setCell (p := ⟨M, k, none⟩) (by simp) (.bool false))
            go_wp2
            refine NoPanic.normal ?_
            go_wp2
            go_roundw
            case rel => exact ⟨m + 1, false && dep l m k, by omega, by omega, by go_num, HN, HC9, HO9⟩
            case measure => simp [intOf]; omega
          | true =>
            iterate 12 (first | (refine lexT_skip (by rfl) ?_; (try simp only [Act.put, List.setIfInBounds_toArray, List.set_cons_zero, List.set_cons_succ])) | (refine lexT_take (v := ?_) (by rfl) ?_ ?_; rotate_left; (focus (intro wq hSw; (try dsimp only at hSw); go_simp; (try with_reducible rfl))); (try simp only [Act.put, List.setIfInBounds_toArray, List.set_cons_zero, List.set_cons_succ])))
            clear hHeld
            generalize wr.drew = wd at *
            (refine lexT_do (by rfl) (fun K hK => ?_); go_simp)
            refine (HC.out _ (HWR.out.trans (hdr.mono HWR.out.size))).mono ?_
            rintro r w5 ⟨rfl, hb5⟩
            (try go_simp)
            have hdr2 := qtrans hdr hb5
            refine hK.out _ _ (SW.out _ hdr2) (fun _ => ?_); clear hK K; (try simp only [Act.put, List.setIfInBounds_toArray, List.set_cons_zero, List.set_cons_succ])
            iterate 3 (first | (refine lexT_skip (by rfl) ?_; (try simp only [Act.put, List.setIfInBounds_toArray, List.set_cons_zero, List.set_cons_succ])) | (refine lexT_take (v := ?_) (by rfl) ?_ ?_; rotate_left; (focus (intro wq hSw; (try dsimp only at hSw); go_simp; (try with_reducible rfl))); (try simp only [Act.put, List.setIfInBounds_toArray, List.set_cons_zero, List.set_cons_succ])))
            refine lexT_end ?_
            have g0 := HM.out.below hdr2
            have hc0 := g0.cell (metC_at (k := k) (by have := HBL.out; simp; omega))
            have hfz := g0.frozen k
            have hgl := g0.lt
            have HO4 := Lib.hid (HMO.out.trans (Mod.of hdr2))
            have HG := Lib.hid g0
            clear g0 SW
            have HC9 : Hid (CBox (w5.setCell ⟨M, k, none⟩ (.bool (!ib))) M 4 (metC (B.set k (true && dep l m k)))) := by
              show CBox _ _ _ _
              have q := HG.out.set k (.bool (!ib))
              rw [metC_setb, List.set_set] at q
              rw [HDP.out] at q ⊢
              exact q
            have HO9 := Lib.hid (HO4.out.setCell (p := ⟨M, k, none⟩) (by simp) (.bool (!ib)))
            go_wp2
            refine NoPanic.normal ?_
            go_wp2
            go_roundw
            case rel => exact ⟨m + 1, true && dep l m k, by omega, by omega, by go_num, HN, HC9, HO9⟩
            case measure => simp [intOf]; omega
        · have HKB : Hid (kp k = !bb) := by
            show _ = _
            have h1 := HBB.out
            have h2 := HKP.out k hi
            have h3 : bb = true ↔ (k = j ∨ Reach l k j) := by
              rw [h1]
              constructor
              · rintro (h | ⟨q, q1, q2, q3, q4, q5⟩)
                · exact .inl h
                · refine .inr (Reach.head.2 ⟨by omega, q, q1, q3, ?_, q5⟩)
                  exact ((HBS.out q).1 q4).elim .inl (fun h => .inr h.2)
              · rintro (h | h)
                · exact .inl h
                · obtain ⟨h4, q, q1, q2, q3, q5⟩ := Reach.head.1 h
                  cases hbv : bb with
                  | true => exact h1.1 hbv
                  | false =>
                    have hnm : ¬ m < k := fun h6 => hgo ⟨h6, hbv⟩
                    exact .inr ⟨q, q1, by omega, q2, (HBS.out q).2 (q3.elim .inl (fun h7 => .inr ⟨q2, h7⟩)), q5⟩
            cases hk2 : kp k with
            | true =>
              cases hbv : bb with
              | false => rfl
              | true => rw [h2.2 (h3.1 hbv)] at hk2; cases hk2
            | false => rw [h3.2 (h2.1 hk2)]; rfl
          have HBS2 : Hid (∀ q, metB (B.set k bb) q ↔ (q = j ∨ (q < k + 1 ∧ Reach l q j))) := fun q => by
            have h2 := HKP.out k hi
            rw [HKB.out] at h2
            rw [metB_setb (by have := HBL.out; omega), HBS.out q]
            constructor
            · rintro (⟨rfl, h⟩ | ⟨h4, h5 | h5⟩)
              · exact (h2.1 (by rw [h]; rfl)).elim .inl (fun h6 => .inr ⟨by omega, h6⟩)
              · exact .inl h5
              · exact .inr ⟨by omega, h5.2⟩
            · intro h
              by_cases hq : q = k
              · subst hq
                refine .inl ⟨rfl, ?_⟩
                have := h2.2 (h.elim .inl (fun h6 => .inr h6.2))
                simpa using this
              · exact .inr ⟨hq, h.elim .inl (fun h6 => .inr ⟨by omega, h6.2⟩)⟩
          have HBL2 : Hid ((B.set k bb).length = l.length) := by show _ = _; rw [List.length_set]; exact HBL.out
          have HS := Lib.hid (HPS.out k)
          rw [HKB.out, eAt_of HEE.out] at HS
          have HOE := Lib.hid (HOA.out.mod HMO.out (by intro q hq; simp at hq; omega))
          have HWR := Lib.hid (HBA.out.trans (HMO.out.upto HBA.out.size (by intro q hq; simp at hq; omega)))
          have hXr := HX.out.mod HMO.out (by simp; omega)
          have e0 := hXr.cell (i := 0) (v := .int .i64 e.kind) rfl
          have e1 := hXr.cell (i := 1) (v := .string e.pack) rfl
          have e2 := hXr.cell (i := 2) (v := .string e.text) rfl
          have e3 := hXr.cell (i := 3) (v := .slice ao e.old.length co) rfl
          have e4 := hXr.cell (i := 4) (v := .slice af e.fresh.length cf) rfl
          have el := hXr.lt
          obtain ⟨sa, sc, rfl⟩ := HSV.out
          have hlen := HLEN.out
          have hsw := HWR.out.size
          by_cases hmk3 : m < k
          · have hbt : bb = true := by cases hbv : bb with | true => rfl | false => exact absurd ⟨hmk3, hbv⟩ hgo
            subst hbt
            have hd2 : decide ((m : Int) < (k : Int)) = true := decide_eq_true (by omega)
            have hd3 : decide (m < k) = true := decide_eq_true hmk3
            rw [if_neg (by simp), List.append_nil] at HS
            clear hXr hgo hmk3
            go_wp2
            go_roundw
            case rel => exact ⟨k + 1, _, by omega, by go_num, HBL2, HBS2, HM, by rw [HS.out]; exact HOE.out, HWR⟩
            case measure => simp [intOf]; omega
          have hd2 : decide ((m : Int) < (k : Int)) = false := decide_eq_false (by omega)
          have hd3 : decide (m < k) = false := decide_eq_false hmk3
          clear hXr hgo hmk3
          cases bb with
          | true =>
            rw [if_neg (by simp), List.append_nil] at HS
            go_wp2
            go_roundw
            case rel => exact ⟨k + 1, _, by omega, by go_num, HBL2, HBS2, HM, by rw [HS.out]; exact HOE.out, HWR⟩
            case measure => simp [intOf]; omega
          | false =>
            rw [if_pos (by rfl)] at HS
            obtain ⟨xs, hown, hxs⟩ := HOE.out
            have HXS := Lib.hid hxs
            have hA3 := qalloc wr (.cells #[.int .i64 e.kind, .string e.pack, .string e.text, .slice ao e.old.length co, .slice af e.fresh.length cf] 24)
            have HR3 := Lib.hid (owns_row (own_many wr wr.heap.size (Nat.le_refl _) 24 #[.int .i64 e.kind, .string e.pack, .string e.text, .slice ao e.old.length co, .slice af e.fresh.length cf] 5 1 rfl (by omega)))
            have HO3 := Lib.hid (owns_below hown hA3)
            have HM3 := Lib.hid (HM.out.below hA3)
            have HA3 := Lib.hid hA3
            have hsz3 := hA3.size
            clear hA3 hown hxs
            go_wp2_with (at_builtin; refine wpList_append_row rfl _ _ 26 rfl (M + 1) 24 i0 _ 5 88 Tryz.underlying26 hi0 hz0 hz1 hz2 hzs (by decide) _ _ _ rfl HO3.out _ _ _ rfl HR3.out (by intro u hu; simp at hu; rcases hu with rfl | rfl | rfl | rfl | rfl <;> rfl) (by unfold maxLen; omega) (by omega) (by omega) ?_)
            intro v5 w5 hown5 hg5 hbk5
            have HB5 := Lib.hid (((HWR.out.trans (HA3.out.mono hsw))).grown hg5 (by omega) (fun x hx => by have := (HO3.out.lt x hx).1; omega))
            have HO5 : Hid (OwnE w w5 (M + 1) v5 (pf (k + 1))) := by
              show OwnE _ _ _ _ _
              rw [HS.out]
              exact OwnE.snoc HXS.out hin.out hown5
            have HM5 : Hid (CBox w5 M 4 (metC (B.set k false))) := (hg5.block M HM3.out.lt (fun e => by have := (HO3.out.lt M e.symm).1; omega)).trans HM3.out
            clear hown5 hg5 hbk5
            go_wp2
            go_roundw
            case rel => exact ⟨k + 1, _, by omega, by go_num, HBL2, HBS2, HM5, HO5, HB5⟩
            case measure => simp [intOf]; omega
    · have hd : decide ((k : Int) < (l.length : Int)) = false := decide_eq_false (by omega)
      obtain rfl : k = l.length := by omega
      have HO2 := HO.out
      obtain ⟨sa, sc, rfl⟩ := HO2.val
      have HRR := Lib.hid (HO2.reads HB.out)
      clear HO2
      go_wp2
      go_returns
      exact ⟨_, by rw [H0.out]; rfl, ⟨sa, sc, by rw [HP.out]; rfl⟩, by rw [HP.out]; exact HRR.out, HB.out⟩
end Go.Proofs.YtlcpdhionefmbaaGreatDoor
