/- The reader of buildfile.Parse: its state in memory; next and skip. -/
import Derived.Test.YtgcmekpfhagnbaaDoorWdB
import Derived.Test.YtgcmekpfhagnbaaDoorMem2
namespace Go.Proofs.YtgcmekpfhagnbaaDoor
open Go.RowKit

abbrev Words := List (ByteArray × Nat)
def IsWords (w : World) (v : Value) (ws : Words) : Prop := IsRow w 2 v ws.length (wordCells ws)
/-- The reader at block R: the words that are left, and the rule. -/
def Rd (w : World) (R : Nat) (v : Value) (kd : Int) (nm : ByteArray) (dv vv : Value) : Prop :=
  w.heap[R]? = some (.cells #[v, .int .i64 kd, .string nm, dv, vv] 52 (0, 0))
/-- The words that are left are ws, and they do not lie in the reader. -/
def RdW (w : World) (R : Nat) (ws : Words) (v : Value) : Prop := IsWords w v ws ∧ ∀ b, v.ownBlock = some b → b < R
structure SmallW (ws : Words) : Prop where
  len : ws.length ≤ 40000
  all : ∀ x ∈ ws, x.1.size ≤ 40000 ∧ x.2 ≤ 40000
def headT (ws : Words) : ByteArray := match ws with | [] => ⟨#[]⟩ | x :: _ => x.1

theorem SmallW.tail {x : ByteArray × Nat} {ws : Words} (h : SmallW (x :: ws)) : SmallW ws := ⟨by have := h.len; simp at this; omega, fun y hy => h.all y (List.mem_cons_of_mem _ hy)⟩
theorem SmallW.head {ws : Words} (h : SmallW ws) : (headT ws).size ≤ 40000 := by
  cases ws with
  | nil => exact Nat.zero_le _
  | cons x r => exact (h.all x (List.mem_cons_self ..)).1
theorem Rd.cells {w : World} {R : Nat} {v : Value} {kd : Int} {nm : ByteArray} {dv vv : Value} (h : Rd w R v kd nm dv vv) :
    R < w.heap.size ∧ w.cell? ⟨R, 0, none⟩ = some v ∧ w.cell? ⟨R, 1, none⟩ = some (.int .i64 kd) ∧ w.cell? ⟨R, 1 + 1, none⟩ = some (.string nm) ∧ w.cell? ⟨R, 1 + 2, none⟩ = some dv ∧ w.cell? ⟨R, 1 + 3, none⟩ = some vv ∧ ∀ o, w.frozen? ⟨R, o, none⟩ = false := by
  have h' : w.heap[R]? = _ := h
  refine ⟨(Array.getElem?_eq_some_iff.1 h').1, ?_, ?_, ?_, ?_, ?_, fun o => ?_⟩
  all_goals simp [World.cell?, World.frozen?, h']
theorem heap_setCell_at {w : World} {R : Nat} {cs : Array Value} {t : TypeId} {m : Nat × Nat} (h : w.heap[R]? = some (.cells cs t m)) (o : Nat) (v : Value) : (w.setCell ⟨R, o, none⟩ v).heap[R]? = some (.cells (cs.setIfInBounds o v) t m) := by
  obtain ⟨hlt, hk⟩ := Array.getElem?_eq_some_iff.1 h
  show (w.heap.modify R _)[R]? = _
  rw [Array.getElem?_eq_getElem (by rw [Array.size_modify]; exact hlt), Array.getElem_modify_self, hk]
  rfl
theorem Rd.set0 {w : World} {R : Nat} {v : Value} {kd : Int} {nm : ByteArray} {dv vv : Value} (h : Rd w R v kd nm dv vv) (v' : Value) : Rd (w.setCell ⟨R, 0, none⟩ v') R v' kd nm dv vv := heap_setCell_at h 0 v'
theorem Rd.set1 {w : World} {R : Nat} {v : Value} {kd : Int} {nm : ByteArray} {dv vv : Value} (h : Rd w R v kd nm dv vv) (kd' : Int) : Rd (w.setCell ⟨R, 1, none⟩ (.int .i64 kd')) R v kd' nm dv vv := heap_setCell_at h 1 _
theorem Rd.set2 {w : World} {R : Nat} {v : Value} {kd : Int} {nm : ByteArray} {dv vv : Value} (h : Rd w R v kd nm dv vv) (nm' : ByteArray) : Rd (w.setCell ⟨R, 2, none⟩ (.string nm')) R v kd nm' dv vv := heap_setCell_at h 2 _
theorem Rd.set3 {w : World} {R : Nat} {v : Value} {kd : Int} {nm : ByteArray} {dv vv : Value} (h : Rd w R v kd nm dv vv) (dv' : Value) : Rd (w.setCell ⟨R, 3, none⟩ dv') R v kd nm dv' vv := heap_setCell_at h 3 _
theorem Rd.set4 {w : World} {R : Nat} {v : Value} {kd : Int} {nm : ByteArray} {dv vv : Value} (h : Rd w R v kd nm dv vv) (vv' : Value) : Rd (w.setCell ⟨R, 4, none⟩ vv') R v kd nm dv vv' := heap_setCell_at h 4 _
theorem Rd.below {w w' : World} {R : Nat} {v : Value} {kd : Int} {nm : ByteArray} {dv vv : Value} (h : Rd w R v kd nm dv vv) (m : Below w.heap.size w w') : Rd w' R v kd nm dv vv :=
  (m.block R (Array.getElem?_eq_some_iff.1 h).1).trans h
theorem Rd.mod {w w' : World} {R : Nat} {v : Value} {kd : Int} {nm : ByteArray} {dv vv : Value} {X : List Nat} (h : Rd w R v kd nm dv vv) (m : Mod X w w') (hR : R ∉ X) : Rd w' R v kd nm dv vv := Mod.heap m h hR
theorem RdW.mods {w w' : World} {R : Nat} {ws : Words} {v : Value} {X : List Nat} (h : RdW w R ws v) (m : Mod X w w') (hX : ∀ k, k ∈ X → R ≤ k) : RdW w' R ws v :=
  ⟨h.1.mod m (fun b hb hx => by have := h.2 b hb; have := hX b hx; omega), h.2⟩
theorem RdW.mod {w w' : World} {R : Nat} {ws : Words} {v : Value} (h : RdW w R ws v) (m : Mod [R] w w') : RdW w' R ws v := h.mods m (by simp)
theorem RdW.below {w w' : World} {R : Nat} {ws : Words} {v : Value} (h : RdW w R ws v) (m : Below w.heap.size w w') : RdW w' R ws v := h.mod (Mod.of m)

theorem IsWords.nil {w : World} {v : Value} (h : IsWords w v []) : ∃ a cap, v = .slice a 0 cap := by
  obtain ⟨_, a, cap, e, _⟩ := h; exact ⟨a, cap, e⟩
theorem IsWords.cons {w : World} {v : Value} {x : ByteArray × Nat} {ws : Words} (h : IsWords w v (x :: ws)) :
    ∃ b o cap, v = .slice (some ⟨b, o, none⟩) (ws.length + 1) cap ∧ ws.length + 1 ≤ cap ∧ cap ≤ 9223372036854775807 ∧ b < w.heap.size ∧ w.cell? ⟨b, o, none⟩ = some (.string x.1) ∧ w.cell? ⟨b, o + 1, none⟩ = some (.int .i64 x.2) ∧
      IsWords w (.slice (some ⟨b, o + 2, none⟩) ws.length (cap - 1)) ws := by
  obtain ⟨_, a, cap, rfl, h1, h2, h3⟩ := h
  obtain ⟨b, o, rfl, hb, hc⟩ := h3 (by simp)
  have c0 := hc 0 (.string x.1) rfl
  have c1 := hc 1 (.int .i64 x.2) rfl
  simp only [List.length_cons] at h1 ⊢
  refine ⟨b, o, cap, rfl, h1, by unfold maxLen at h2; omega, hb, c0, c1, wordCells_len _, _, _, rfl, by omega, by omega, fun _ => ⟨b, o + 2, rfl, hb, fun j u hj => ?_⟩⟩
  have := hc (j + 2) u hj
  rwa [show o + 2 + j = o + (j + 2) by omega]

theorem next_any (R : Nat) (ws : Words) (v : Value) (kd : Int) (nm : ByteArray) (dv vv : Value) (w : World) (hr : Rd w R v kd nm dv vv) (hw : RdW w R ws v) (hs : SmallW ws) :
    Calls Tryd.prog 55 #[.pointer (some ⟨R, 0, none⟩)] w fun e w' => e = .returned (.string (headT ws)) ∧ w = w' := by
  obtain ⟨hR, q0, _⟩ := hr.cells
  have hlen := hs.len
  cases ws with
  | nil =>
    obtain ⟨a, cap, rfl⟩ := hw.1.nil
    clear hr hw
    go_enter Tryd.func55, Tryd.ntmps55
    go_wp2
    go_ret
    exact ⟨rfl, rfl⟩
  | cons x ws =>
    obtain ⟨b, o, cap, rfl, h1, h2, hb, c0, c1, _⟩ := hw.1.cons
    clear hr hw
    simp only [List.length_cons] at hlen
    have hz : (((ws.length + 1 : Nat) : Int) == 0) = false := by rw [beq_eq_false_iff_ne]; omega
    go_enter Tryd.func55, Tryd.ntmps55
    go_wp2
    go_ret
    exact ⟨rfl, rfl⟩

theorem IsWords.tail0 (w : World) (a : Option Addr) (cap : Nat) (h : cap ≤ maxLen) : IsWords w (.slice a 0 cap) [] := ⟨rfl, a, cap, rfl, Nat.zero_le _, h, fun h => absurd h (Nat.lt_irrefl _)⟩
/-- What skip leaves where the word is the one. -/
def Skipped (R : Nat) (r : Words) (kd : Int) (nm : ByteArray) (dv vv : Value) (w : World) (e : Ending) (w' : World) : Prop :=
  e = .returned (.bool true) ∧ (∃ v', Rd w' R v' kd nm dv vv ∧ RdW w' R r v') ∧ Mod [R] w w'
theorem skip_yes (R : Nat) (x : ByteArray × Nat) (r : Words) (txt : ByteArray) (v : Value) (kd : Int) (nm : ByteArray) (dv vv : Value) (w : World) (hr : Rd w R v kd nm dv vv) (hw : RdW w R (x :: r) v) (hs : SmallW (x :: r)) (hx : (x.1.toList == txt.toList) = true) :
    Calls Tryd.prog 54 #[.pointer (some ⟨R, 0, none⟩), .string txt] w (Skipped R r kd nm dv vv w) := by
  obtain ⟨hR, q0, _, _, _, _, fz⟩ := hr.cells
  have f0 := fz 0
  clear fz
  have hlen := hs.len
  have HN := Lib.hid (fun w' => next_any R (x :: r) v kd nm dv vv w')
  have HR := Lib.hid hr
  have HW := Lib.hid hw
  obtain ⟨b, o, cap, rfl, h1, h2, hb, c0, c1, hrest⟩ := hw.1.cons
  have hbR : b < R := hw.2 b rfl
  have HT := Lib.hid hrest
  clear hr hw hrest
  simp only [List.length_cons] at hlen
  by_cases hcap : cap = 1
  · subst hcap
    have hr0 : r = [] := by apply List.eq_nil_of_length_eq_zero; omega
    subst hr0
    clear h1 h2 hlen
    go_enter Tryd.func54, Tryd.ntmps54
    go_wp2_with (go_at_call 55; refine (HN.out _ HR.out HW.out hs).mono ?_; rintro e w' ⟨rfl, rfl⟩; simp only [headT])
    go_ret
    exact ⟨rfl, ⟨_, HR.out.set0 _, IsWords.tail0 _ _ _ (by unfold maxLen; omega), fun b' hb' => by cases hb'; exact hbR⟩, (Mod.refl _ _).setCell (by simp) _⟩
  · go_enter Tryd.func54, Tryd.ntmps54
    go_wp2_with (go_at_call 55; refine (HN.out _ HR.out HW.out hs).mono ?_; rintro e w' ⟨rfl, rfl⟩; simp only [headT])
    go_ret
    have hm : Mod [R] w (w.setCell ⟨R, 0, none⟩ (.slice (some ⟨b, o + 2, none⟩) r.length (cap - 1))) := (Mod.refl _ _).setCell (by simp) _
    exact ⟨rfl, ⟨_, HR.out.set0 _, HT.out.mod hm (fun b' hb' => by cases hb'; simp; omega), fun b' hb' => by cases hb'; exact hbR⟩, hm⟩
theorem skip_no (R : Nat) (ws : Words) (txt : ByteArray) (v : Value) (kd : Int) (nm : ByteArray) (dv vv : Value) (w : World) (hr : Rd w R v kd nm dv vv) (hw : RdW w R ws v) (hs : SmallW ws) (hx : ((headT ws).toList == txt.toList) = false) :
    Calls Tryd.prog 54 #[.pointer (some ⟨R, 0, none⟩), .string txt] w fun e w' => e = .returned (.bool false) ∧ w = w' := by
  have HN := Lib.hid (fun w' => next_any R ws v kd nm dv vv w')
  have HR := Lib.hid hr
  have HW := Lib.hid hw
  clear hr hw
  go_enter Tryd.func54, Tryd.ntmps54
  go_wp2_with (go_at_call 55; refine (HN.out _ HR.out HW.out hs).mono ?_; rintro e w' ⟨rfl, rfl⟩)
  go_ret
  exact ⟨rfl, rfl⟩
end Go.Proofs.YtgcmekpfhagnbaaDoor
