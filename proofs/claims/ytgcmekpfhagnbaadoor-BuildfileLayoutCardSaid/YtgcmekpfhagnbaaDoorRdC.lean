/- The reader's elements, deps, visible. -/
import Derived.Test.YtgcmekpfhagnbaaDoorRdB
namespace Go.Proofs.YtgcmekpfhagnbaaDoor
open Go.RowKit

/-- The valid words at the beginning, and those after them. -/
def takeV (vb : ByteArray → Bool) : Words → List ByteArray × Words
  | [] => ([], [])
  | x :: r => if vb x.1 then (x.1 :: (takeV vb r).1, (takeV vb r).2) else ([], x :: r)
theorem takeV_stop (vb : ByteArray → Bool) {ws : Words} (h : vb (headT ws) = false) : takeV vb ws = ([], ws) := by
  cases ws with
  | nil => rfl
  | cons x r => rw [takeV, if_neg (by rw [show vb x.1 = false from h]; simp)]
theorem takeV_small (vb : ByteArray → Bool) : ∀ {ws : Words}, SmallW ws → (∀ s ∈ (takeV vb ws).1, s.size ≤ 40000) ∧ SmallW (takeV vb ws).2 ∧ (takeV vb ws).1.length + (takeV vb ws).2.length = ws.length
  | [], h => ⟨by simp [takeV], h, rfl⟩
  | x :: r, h => by
    obtain ⟨h1, h2, h3⟩ := takeV_small vb h.tail
    rw [takeV]
    split
    · refine ⟨fun s hs => ?_, h2, by simp; omega⟩
      rcases List.mem_cons.1 hs with rfl | hs
      · exact (h.all x (List.mem_cons_self ..)).1
      · exact h1 s hs
    · exact ⟨by simp, h, by simp⟩
theorem infoStr : (Tryd.prog.info? 9).map (fun i => (i.zero, i.size, i.bytes)) = some (some (.string ⟨#[]⟩), 1, 16) := by kernel_rfl
theorem owns_below {w w' : World} {base : Nat} {e : TypeId} {size : Nat} {v : Value} {n : Nat} {xs : List Value} (h : w.ownsRow base e size v n xs) (m : Below w.heap.size w w') : w'.ownsRow base e size v n xs := by
  obtain ⟨h1, h2⟩ := h
  refine ⟨h1, ?_⟩
  rcases h2 with h2 | ⟨g, cap, cur, hv, hg, hh, r⟩
  · exact .inl h2
  · exact .inr ⟨g, cap, cur, hv, hg, (m.block g (Array.getElem?_eq_some_iff.1 hh).1).trans hh, r⟩
theorem owns_set {w : World} {base : Nat} {e : TypeId} {size : Nat} {v : Value} {n : Nat} {xs : List Value} (h : w.ownsRow base e size v n xs) {R o : Nat} (hR : R < base) (u : Value) : (w.setCell ⟨R, o, none⟩ u).ownsRow base e size v n xs :=
  ownsRow_setCell_below h (a := ⟨R, o, none⟩) hR u
theorem owns_block {w : World} {base : Nat} {e : TypeId} {size : Nat} {v : Value} {n : Nat} {xs : List Value} (h : w.ownsRow base e size v n xs) {b : Nat} (hb : v.ownBlock = some b) : base ≤ b := by
  rcases h.2 with ⟨rfl, _⟩ | ⟨g, cap, cur, rfl, hg, _⟩
  · cases hb
  · cases hb; exact hg
theorem owns_row {w : World} {base : Nat} {e : TypeId} {size : Nat} {v : Value} {n : Nat} {xs : List Value} (h : w.ownsRow base e size v n xs) : IsRow w size v n xs := by
  obtain ⟨h1, h2⟩ := h
  rcases h2 with ⟨rfl, rfl⟩ | ⟨g, cap, cur, rfl, hg, hh, hn, hc, hs, ht⟩
  · exact ⟨h1, none, 0, rfl, Nat.le_refl _, Nat.zero_le _, fun h => absurd h (Nat.lt_irrefl _)⟩
  · refine ⟨h1, _, cap, rfl, hn, hc, fun _ => ⟨g, 0, rfl, (Array.getElem?_eq_some_iff.1 hh).1, fun j u hj => ?_⟩⟩
    rw [← ht, List.getElem?_take] at hj
    split at hj
    · simp only [World.cell?, hh, Nat.zero_add, Option.isSome_none, Bool.false_eq_true, if_false]
      rw [← Array.getElem?_toList]; exact hj
    · cases hj
/-- An append by the law's words: what lay below the base is as it was. -/
theorem mod_grown {X : List Nat} {w w1 w2 : World} {base : Nat} {e : TypeId} {size : Nat} {v : Value} {n : Nat} {xs : List Value} (m : Mod X w w1) (h : w1.ownsRow base e size v n xs) (hb : w.heap.size ≤ base) (g : w1.grownBy w2 v.ownBlock) : Mod X w w2 :=
  m.trans' g (fun _ hk => Nat.le_trans hb (owns_block h hk))

def wordsLeft (w : World) (R : Nat) : Nat := match w.cell? ⟨R, 0, none⟩ with | some (.slice _ n _) => n | _ => 0
theorem wordsLeft_eq {w : World} {R : Nat} {ws : Words} {v : Value} {kd : Int} {nm : ByteArray} {dv vv : Value} (h : Rd w R v kd nm dv vv) (hw : RdW w R ws v) : wordsLeft w R = ws.length := by
  obtain ⟨_, q0, _⟩ := h.cells
  obtain ⟨⟨_, a, cap, rfl, _⟩, _⟩ := hw
  simp [wordsLeft, q0]
/-- The slice lies in a block of strings from B on. -/
def OwnStr (B : Nat) (w : World) (v : Value) : Prop := ∀ g, v.ownBlock = some g → B ≤ g ∧ ∃ cur m, w.heap[g]? = some (.cells cur 9 m)
theorem OwnStr.mod {B : Nat} {w w' : World} {v : Value} {X : List Nat} (h : OwnStr B w v) (m : Mod X w w') (hX : ∀ k, k ∈ X → k < B) : OwnStr B w' v := fun g hg => by
  obtain ⟨h1, cur, q, hh⟩ := h g hg
  exact ⟨h1, cur, q, m.heap hh (fun hx => by have := hX g hx; omega)⟩
theorem OwnStr.lower {B B' : Nat} {w : World} {v : Value} (h : OwnStr B w v) (hB : B' ≤ B) : OwnStr B' w v := fun g hg => ⟨Nat.le_trans hB (h g hg).1, (h g hg).2⟩
theorem owns_str {w : World} {base : Nat} {size : Nat} {v : Value} {n : Nat} {xs : List Value} (h : w.ownsRow base 9 size v n xs) : OwnStr base w v := fun g hg => by
  rcases h.2 with ⟨rfl, _⟩ | ⟨g', cap, cur, rfl, h1, hh, _⟩
  · cases hg
  · cases hg; exact ⟨h1, cur, _, hh⟩
/-- What elements leaves: the list, whether the words fit, and the reader. -/
def ElemPost (R : Nat) (l : List ByteArray) (b : Bool) (ws : Words) (kd : Int) (nm : ByteArray) (dv vv : Value) (w : World) (e : Ending) (w' : World) : Prop :=
  ∃ lv, e = .returned (.tuple #[lv, .bool b]) ∧ Strs w' lv l ∧ OwnStr w.heap.size w' lv ∧ (∃ v', Rd w' R v' kd nm dv vv ∧ RdW w' R ws v') ∧ Mod [R] w w'
theorem elements_none (vf : FuncId) (R : Nat) (txt : ByteArray) (ws : Words) (v : Value) (kd : Int) (nm : ByteArray) (dv vv : Value) (w : World) (hr : Rd w R v kd nm dv vv) (hw : RdW w R ws v) (hs : SmallW ws) (hx : ((headT ws).toList == txt.toList) = false) :
    Calls Tryd.prog 57 #[.pointer (some ⟨R, 0, none⟩), .string txt, .func (.func vf) #[] #[]] w (ElemPost R [] true ws kd nm dv vv w) := by
  have HR := Lib.hid hr
  have HW := Lib.hid hw
  clear hr hw
  go_enter Tryd.func57, Tryd.ntmps57
  go_wp2_with (go_at_call 54; refine (skip_no R ws txt _ _ _ _ _ _ HR.out HW.out hs hx).mono ?_; rintro e w' ⟨rfl, rfl⟩)
  go_ret2
  exact ⟨_, rfl, Strs.nil _ _ _ (Nat.zero_le _), (fun g hg => by cases hg), ⟨_, HR.out, HW.out⟩, Mod.refl _ _⟩

theorem freeLabelS_nil : freeLabelS ⟨#[]⟩ = false := by decide
set_option maxHeartbeats 1000000 in
theorem elements_freeLabel (R : Nat) (txt : ByteArray) (x : ByteArray × Nat) (ws : Words) (v : Value) (kd : Int) (nm : ByteArray) (dv vv : Value) (w : World) (hr : Rd w R v kd nm dv vv) (hw : RdW w R (x :: ws) v) (hs : SmallW (x :: ws)) (hx : (x.1.toList == txt.toList) = true) :
    Calls Tryd.prog 57 #[.pointer (some ⟨R, 0, none⟩), .string txt, .func (.func 58) #[] #[]] w (ElemPost R (takeV freeLabelS ws).1 (decide (0 < (takeV freeLabelS ws).1.length)) (takeV freeLabelS ws).2 kd nm dv vv w) := by
  have HR := Lib.hid hr
  have HW := Lib.hid hw
  have hRw : R < w.heap.size := hr.cells.1
  clear hr hw
  obtain ⟨i0, hi, hz0, hz1, hz2⟩ := info_parts infoStr
  go_enter Tryd.func57, Tryd.ntmps57
  go_wp2_with (go_at_call 54; refine (skip_yes R x ws txt _ _ _ _ _ _ HR.out HW.out hs hx).mono ?_; rintro e w1 ⟨rfl, ⟨v1, hr1, hw1⟩, hm1⟩)
  have HR1 := Lib.hid hr1
  have HW1 := Lib.hid hw1
  clear hr1 hw1 HR HW hx
  go_loopw [8] (fun lv wr => ∃ (got : List ByteArray) (rest : Words) (v' : Value), Hid ((takeV freeLabelS ws).1 = got ++ (takeV freeLabelS rest).1 ∧ (takeV freeLabelS ws).2 = (takeV freeLabelS rest).2) ∧ Hid (Rd wr R v' kd nm dv vv) ∧ Hid (RdW wr R rest v') ∧ SmallW rest ∧ wr.ownsRow w.heap.size 9 1 lv got.length (got.map .string) ∧ Mod [R] w wr ∧ got.length + rest.length ≤ 40000) (fun _ wr => wordsLeft wr R)
  case atStart => exact ⟨[], ws, v1, ⟨rfl, rfl⟩, HR1, HW1, hs.tail, ⟨rfl, .inl ⟨rfl, rfl⟩⟩, hm1, by have := hs.tail.len; simp; omega⟩
  case round =>
    obtain ⟨got, rest, v', HT, HR, HW, hsr, hown, hm, hlen⟩ := hrel
    cases hv : freeLabelS (headT rest) with
    | false =>
      have HE : Hid ((takeV freeLabelS ws).1 = got ∧ (takeV freeLabelS ws).2 = rest) := by
        have := HT.out
        rw [takeV_stop _ hv] at this
        show _ ∧ _
        simpa using this
      have HO := Lib.hid hown
      obtain ⟨_, a, cap, rfl, _, _, _⟩ := owns_row hown
      clear hown
      go_wp2_with (first | (go_at_call 55; refine (next_any R rest _ _ _ _ _ _ HR.out HW.out hsr).mono ?_; rintro e w2 ⟨rfl, rfl⟩) | (go_at_call 58; refine (freeLabel_any _ _ hsr.head).mono ?_; rintro e w2 ⟨rfl, hb2⟩))
      go_ret2
      unfold ElemPost
      rw [HE.out.1, HE.out.2]
      exact ⟨_, by simp, (owns_row (owns_below HO.out hb2)), owns_str (owns_below HO.out hb2), ⟨_, HR.out.below hb2, HW.out.below hb2⟩, hm.trans (Mod.of hb2)⟩
    | true =>
      cases rest with
      | nil => rw [show headT [] = ⟨#[]⟩ from rfl, freeLabelS_nil] at hv; cases hv
      | cons y rest =>
        have HE : Hid ((takeV freeLabelS ws).1 = (got ++ [y.1]) ++ (takeV freeLabelS rest).1 ∧ (takeV freeLabelS ws).2 = (takeV freeLabelS rest).2) := by
          have := HT.out
          rw [takeV, if_pos (show freeLabelS y.1 = true from hv)] at this
          show _ ∧ _
          simpa using this
        have hy := (hsr.all y (List.mem_cons_self ..)).1
        simp only [List.length_cons] at hlen
        have hmz := hm.size
        have HWL := Lib.hid (wordsLeft_eq HR.out HW.out)
        go_wp2_with (first | (go_at_call 55; refine (next_any R (y :: rest) _ _ _ _ _ _ HR.out HW.out hsr).mono ?_; rintro e w2 ⟨rfl, rfl⟩) | (go_at_call 58; refine (freeLabel_any _ _ hsr.head).mono ?_; rintro e w2 ⟨rfl, hb2⟩))
        have HR2 := Lib.hid (HR.out.below hb2)
        have HW2 := Lib.hid (HW.out.below hb2)
        have hown2 := owns_below hown hb2
        have hm2 := hm.trans (Mod.of hb2)
        have hmz2 := hm2.size
        refine (next_any R (y :: rest) _ _ _ _ _ _ HR2.out HW2.out hsr).mono ?_
        rintro e w2' ⟨rfl, rfl⟩
        clear hown
        go_wp2_with (at_builtin; refine wpList_append_own _ rfl _ _ 29 rfl w.heap.size 9 i0 _ 1 16 Tryd.underlying29 hi hz0 hz1 hz2 rfl (by decide) _ _ _ rfl (hown2.alloc _) ⟨w2.heap.size, 0, none⟩ 1 1 [.string y.1] rfl rfl (cell_one_new _ _ _) (by simp [Value.oneCell']) (by unfold maxLen; omega) (by omega) (by simp; omega) ?_)
        intro lv' w3 hown3 hg3 _
        have hm3 : Mod [R] w w3 := mod_grown (hm2.alloc _) (hown2.alloc _) (Nat.le_refl _) hg3
        have hR3 : w3.heap[R]? = w2.heap[R]? := by
          rw [hg3.block R (by simp; omega) (fun e => by have := owns_block hown2 e.symm; omega)]
          exact Below.heap_alloc _ _ _ (by omega)
        have HR3 : Hid (Rd w3 R v' kd nm dv vv) := hR3.trans HR2.out
        have HW3 : Hid (RdW w3 R (y :: rest) v') := by
          refine ⟨?_, HW2.out.2⟩
          have ma : Mod [] w2 (w2.alloc (.cells #[.string (headT (y :: rest))] 9)) := (Mod.refl _ _).alloc _
          have h1 := IsRow.mod HW2.out.1 ma (by simp)
          have mg : Mod (u8.ownBlock.toList) (w2.alloc (.cells #[.string (headT (y :: rest))] 9)) w3 := ⟨hg3.os, hg3.tape, hg3.output, hg3.size, fun k hk hx => hg3.block k hk (fun e => hx (by rw [← e]; simp))⟩
          refine IsRow.mod h1 mg (fun b hb hx => ?_)
          have hbR := HW2.out.2 b hb
          have : u8.ownBlock = some b := by simpa using hx
          have := owns_block hown2 this
          omega
        clear hR3 HR HW HR2 HW2
        obtain ⟨g', cap', rfl⟩ := ownsRow_succ hown3
        obtain ⟨_, q0, _, _, _, _, fz⟩ := HR3.out.cells
        have f0 := fz 0
        clear fz
        obtain ⟨b, o, cap, rfl, k1, k2, kb, c0, c1, hrest⟩ := HW3.out.1.cons
        have hbR : b < R := HW3.out.2 b rfl
        have HRT := Lib.hid hrest
        clear hrest
        by_cases hcap : cap = 1
        · subst hcap
          have hr0 : rest = [] := by apply List.eq_nil_of_length_eq_zero; omega
          subst hr0
          go_wp2
          have hrd := HR3.out.set0 (.slice (some ⟨b, o, none⟩) 0 0)
          have hrw : RdW (w3.setCell ⟨R, 0, none⟩ (.slice (some ⟨b, o, none⟩) 0 0)) R [] (.slice (some ⟨b, o, none⟩) 0 0) := ⟨IsWords.tail0 _ _ _ (by unfold maxLen; omega), fun b' hb' => by cases hb'; exact hbR⟩
          go_roundw
          case rel => exact ⟨got ++ [y.1], [], _, HE, hrd, hrw, hsr.tail, by rw [List.map_append, List.length_append]; exact owns_set hown3 hRw _, hm3.setCell (by simp) _, by simp; omega⟩
          case measure => rw [wordsLeft_eq hrd hrw, HWL.out]; simp
        · go_wp2
          have hm4 : Mod [R] w3 (w3.setCell ⟨R, 0, none⟩ (.slice (some ⟨b, o + 2, none⟩) rest.length (cap - 1))) := (Mod.refl _ _).setCell (by simp) _
          have hrd := HR3.out.set0 (.slice (some ⟨b, o + 2, none⟩) rest.length (cap - 1))
          have hrw : RdW (w3.setCell ⟨R, 0, none⟩ (.slice (some ⟨b, o + 2, none⟩) rest.length (cap - 1))) R rest (.slice (some ⟨b, o + 2, none⟩) rest.length (cap - 1)) := ⟨HRT.out.mod hm4 (fun b' hb' => by cases hb'; simp; omega), fun b' hb' => by cases hb'; exact hbR⟩
          go_roundw
          case rel => exact ⟨got ++ [y.1], rest, _, HE, hrd, hrw, hsr.tail, by rw [List.map_append, List.length_append]; exact owns_set hown3 hRw _, hm3.trans hm4, by simp; omega⟩
          case measure => rw [wordsLeft_eq hrd hrw, HWL.out]; simp
theorem viewerS_nil : viewerS ⟨#[]⟩ = false := by decide
set_option maxHeartbeats 1000000 in
theorem elements_viewer (R : Nat) (txt : ByteArray) (x : ByteArray × Nat) (ws : Words) (v : Value) (kd : Int) (nm : ByteArray) (dv vv : Value) (w : World) (hr : Rd w R v kd nm dv vv) (hw : RdW w R (x :: ws) v) (hs : SmallW (x :: ws)) (hx : (x.1.toList == txt.toList) = true) :
    Calls Tryd.prog 57 #[.pointer (some ⟨R, 0, none⟩), .string txt, .func (.func 59) #[] #[]] w (ElemPost R (takeV viewerS ws).1 (decide (0 < (takeV viewerS ws).1.length)) (takeV viewerS ws).2 kd nm dv vv w) := by
  have HR := Lib.hid hr
  have HW := Lib.hid hw
  have hRw : R < w.heap.size := hr.cells.1
  clear hr hw
  obtain ⟨i0, hi, hz0, hz1, hz2⟩ := info_parts infoStr
  go_enter Tryd.func57, Tryd.ntmps57
  go_wp2_with (go_at_call 54; refine (skip_yes R x ws txt _ _ _ _ _ _ HR.out HW.out hs hx).mono ?_; rintro e w1 ⟨rfl, ⟨v1, hr1, hw1⟩, hm1⟩)
  have HR1 := Lib.hid hr1
  have HW1 := Lib.hid hw1
  clear hr1 hw1 HR HW hx
  go_loopw [8] (fun lv wr => ∃ (got : List ByteArray) (rest : Words) (v' : Value), Hid ((takeV viewerS ws).1 = got ++ (takeV viewerS rest).1 ∧ (takeV viewerS ws).2 = (takeV viewerS rest).2) ∧ Hid (Rd wr R v' kd nm dv vv) ∧ Hid (RdW wr R rest v') ∧ SmallW rest ∧ wr.ownsRow w.heap.size 9 1 lv got.length (got.map .string) ∧ Mod [R] w wr ∧ got.length + rest.length ≤ 40000) (fun _ wr => wordsLeft wr R)
  case atStart => exact ⟨[], ws, v1, ⟨rfl, rfl⟩, HR1, HW1, hs.tail, ⟨rfl, .inl ⟨rfl, rfl⟩⟩, hm1, by have := hs.tail.len; simp; omega⟩
  case round =>
    obtain ⟨got, rest, v', HT, HR, HW, hsr, hown, hm, hlen⟩ := hrel
    cases hv : viewerS (headT rest) with
    | false =>
      have HE : Hid ((takeV viewerS ws).1 = got ∧ (takeV viewerS ws).2 = rest) := by
        have := HT.out
        rw [takeV_stop _ hv] at this
        show _ ∧ _
        simpa using this
      have HO := Lib.hid hown
      obtain ⟨_, a, cap, rfl, _, _, _⟩ := owns_row hown
      clear hown
      go_wp2_with (first | (go_at_call 55; refine (next_any R rest _ _ _ _ _ _ HR.out HW.out hsr).mono ?_; rintro e w2 ⟨rfl, rfl⟩) | (go_at_call 59; refine (viewer_any _ _ hsr.head).mono ?_; rintro e w2 ⟨rfl, hb2⟩))
      go_ret2
      unfold ElemPost
      rw [HE.out.1, HE.out.2]
      exact ⟨_, by simp, (owns_row (owns_below HO.out hb2)), owns_str (owns_below HO.out hb2), ⟨_, HR.out.below hb2, HW.out.below hb2⟩, hm.trans (Mod.of hb2)⟩
    | true =>
      cases rest with
      | nil => rw [show headT [] = ⟨#[]⟩ from rfl, viewerS_nil] at hv; cases hv
      | cons y rest =>
        have HE : Hid ((takeV viewerS ws).1 = (got ++ [y.1]) ++ (takeV viewerS rest).1 ∧ (takeV viewerS ws).2 = (takeV viewerS rest).2) := by
          have := HT.out
          rw [takeV, if_pos (show viewerS y.1 = true from hv)] at this
          show _ ∧ _
          simpa using this
        have hy := (hsr.all y (List.mem_cons_self ..)).1
        simp only [List.length_cons] at hlen
        have hmz := hm.size
        have HWL := Lib.hid (wordsLeft_eq HR.out HW.out)
        go_wp2_with (first | (go_at_call 55; refine (next_any R (y :: rest) _ _ _ _ _ _ HR.out HW.out hsr).mono ?_; rintro e w2 ⟨rfl, rfl⟩) | (go_at_call 59; refine (viewer_any _ _ hsr.head).mono ?_; rintro e w2 ⟨rfl, hb2⟩))
        have HR2 := Lib.hid (HR.out.below hb2)
        have HW2 := Lib.hid (HW.out.below hb2)
        have hown2 := owns_below hown hb2
        have hm2 := hm.trans (Mod.of hb2)
        have hmz2 := hm2.size
        refine (next_any R (y :: rest) _ _ _ _ _ _ HR2.out HW2.out hsr).mono ?_
        rintro e w2' ⟨rfl, rfl⟩
        clear hown
        go_wp2_with (at_builtin; refine wpList_append_own _ rfl _ _ 29 rfl w.heap.size 9 i0 _ 1 16 Tryd.underlying29 hi hz0 hz1 hz2 rfl (by decide) _ _ _ rfl (hown2.alloc _) ⟨w2.heap.size, 0, none⟩ 1 1 [.string y.1] rfl rfl (cell_one_new _ _ _) (by simp [Value.oneCell']) (by unfold maxLen; omega) (by omega) (by simp; omega) ?_)
        intro lv' w3 hown3 hg3 _
        have hm3 : Mod [R] w w3 := mod_grown (hm2.alloc _) (hown2.alloc _) (Nat.le_refl _) hg3
        have hR3 : w3.heap[R]? = w2.heap[R]? := by
          rw [hg3.block R (by simp; omega) (fun e => by have := owns_block hown2 e.symm; omega)]
          exact Below.heap_alloc _ _ _ (by omega)
        have HR3 : Hid (Rd w3 R v' kd nm dv vv) := hR3.trans HR2.out
        have HW3 : Hid (RdW w3 R (y :: rest) v') := by
          refine ⟨?_, HW2.out.2⟩
          have ma : Mod [] w2 (w2.alloc (.cells #[.string (headT (y :: rest))] 9)) := (Mod.refl _ _).alloc _
          have h1 := IsRow.mod HW2.out.1 ma (by simp)
          have mg : Mod (u8.ownBlock.toList) (w2.alloc (.cells #[.string (headT (y :: rest))] 9)) w3 := ⟨hg3.os, hg3.tape, hg3.output, hg3.size, fun k hk hx => hg3.block k hk (fun e => hx (by rw [← e]; simp))⟩
          refine IsRow.mod h1 mg (fun b hb hx => ?_)
          have hbR := HW2.out.2 b hb
          have : u8.ownBlock = some b := by simpa using hx
          have := owns_block hown2 this
          omega
        clear hR3 HR HW HR2 HW2
        obtain ⟨g', cap', rfl⟩ := ownsRow_succ hown3
        obtain ⟨_, q0, _, _, _, _, fz⟩ := HR3.out.cells
        have f0 := fz 0
        clear fz
        obtain ⟨b, o, cap, rfl, k1, k2, kb, c0, c1, hrest⟩ := HW3.out.1.cons
        have hbR : b < R := HW3.out.2 b rfl
        have HRT := Lib.hid hrest
        clear hrest
        by_cases hcap : cap = 1
        · subst hcap
          have hr0 : rest = [] := by apply List.eq_nil_of_length_eq_zero; omega
          subst hr0
          go_wp2
          have hrd := HR3.out.set0 (.slice (some ⟨b, o, none⟩) 0 0)
          have hrw : RdW (w3.setCell ⟨R, 0, none⟩ (.slice (some ⟨b, o, none⟩) 0 0)) R [] (.slice (some ⟨b, o, none⟩) 0 0) := ⟨IsWords.tail0 _ _ _ (by unfold maxLen; omega), fun b' hb' => by cases hb'; exact hbR⟩
          go_roundw
          case rel => exact ⟨got ++ [y.1], [], _, HE, hrd, hrw, hsr.tail, by rw [List.map_append, List.length_append]; exact owns_set hown3 hRw _, hm3.setCell (by simp) _, by simp; omega⟩
          case measure => rw [wordsLeft_eq hrd hrw, HWL.out]; simp
        · go_wp2
          have hm4 : Mod [R] w3 (w3.setCell ⟨R, 0, none⟩ (.slice (some ⟨b, o + 2, none⟩) rest.length (cap - 1))) := (Mod.refl _ _).setCell (by simp) _
          have hrd := HR3.out.set0 (.slice (some ⟨b, o + 2, none⟩) rest.length (cap - 1))
          have hrw : RdW (w3.setCell ⟨R, 0, none⟩ (.slice (some ⟨b, o + 2, none⟩) rest.length (cap - 1))) R rest (.slice (some ⟨b, o + 2, none⟩) rest.length (cap - 1)) := ⟨HRT.out.mod hm4 (fun b' hb' => by cases hb'; simp; omega), fun b' hb' => by cases hb'; exact hbR⟩
          go_roundw
          case rel => exact ⟨got ++ [y.1], rest, _, HE, hrd, hrw, hsr.tail, by rw [List.map_append, List.length_append]; exact owns_set hown3 hRw _, hm3.trans hm4, by simp; omega⟩
          case measure => rw [wordsLeft_eq hrd hrw, HWL.out]; simp
end Go.Proofs.YtgcmekpfhagnbaaDoor
