/- The reader's deps, visible. -/
import Derived.Test.YtgcmekpfhagnbaaDoorRdC
namespace Go.Proofs.YtgcmekpfhagnbaaDoor
open Go.RowKit

def bb_deps : ByteArray := ⟨#[100, 101, 112, 115]⟩
def bb_visible : ByteArray := ⟨#[118, 105, 115, 105, 98, 108, 101]⟩
/-- A list after a certain word: the list, whether the words fit, the words after it. -/
def listOf (txt : ByteArray) (vb : ByteArray → Bool) (ws : Words) : List ByteArray × Bool × Words :=
  if (headT ws).toList == txt.toList then ((takeV vb ws.tail).1, decide (0 < (takeV vb ws.tail).1.length), (takeV vb ws.tail).2) else ([], true, ws)
def DepsPost (R : Nat) (x : List ByteArray × Bool × Words) (kd : Int) (nm : ByteArray) (vv : Value) (w : World) (e : Ending) (w' : World) : Prop :=
  e = .returned (.bool x.2.1) ∧ ∃ dv, Strs w' dv x.1 ∧ OwnStr w.heap.size w' dv ∧ (∃ v', Rd w' R v' kd nm dv vv ∧ RdW w' R x.2.2 v') ∧ Mod [R] w w'
def VisPost (R : Nat) (x : List ByteArray × Bool × Words) (kd : Int) (nm : ByteArray) (dv : Value) (w : World) (e : Ending) (w' : World) : Prop :=
  e = .returned (.bool x.2.1) ∧ ∃ vv, Strs w' vv x.1 ∧ OwnStr w.heap.size w' vv ∧ (∃ v', Rd w' R v' kd nm dv vv ∧ RdW w' R x.2.2 v') ∧ Mod [R] w w'
theorem Strs.ofNil (w : World) (v : Value) (h : v = .slice none 0 0) : Strs w v [] := by rw [h]; exact Strs.nil _ _ _ (Nat.zero_le _)

set_option maxHeartbeats 1000000 in
theorem deps_any (R : Nat) (ws : Words) (v : Value) (kd : Int) (nm : ByteArray) (dv vv : Value) (w : World) (hr : Rd w R v kd nm dv vv) (hw : RdW w R ws v) (hs : SmallW ws) :
    Calls Tryd.prog 29 #[.pointer (some ⟨R, 0, none⟩)] w (DepsPost R (listOf bb_deps freeLabelS ws) kd nm vv w) := by
  have HR := Lib.hid hr
  have HW := Lib.hid hw
  have hRw : R < w.heap.size := hr.cells.1
  clear hr hw
  have key : ∀ (l : List ByteArray) (b : Bool) (rest : Words), listOf bb_deps freeLabelS ws = (l, b, rest) → Calls Tryd.prog 57 #[.pointer (some ⟨R, 0, none⟩), .string bb_deps, .func (.func 58) #[] #[]] w (ElemPost R l b rest kd nm dv vv w) →
      Calls Tryd.prog 29 #[.pointer (some ⟨R, 0, none⟩)] w (DepsPost R (listOf bb_deps freeLabelS ws) kd nm vv w) := by
    intro l b rest hl hc
    have HL := Lib.hid hl
    have HC := Lib.hid hc
    clear hl hc
    go_enter Tryd.func29, Tryd.ntmps29
    go_wp2_with (fail)
    refine HC.out.mono ?_
    rintro e w1 ⟨lv, rfl, hst, hbk, ⟨v', hr1, hw1⟩, hm1⟩
    obtain ⟨a, cap, rfl⟩ := hst.val
    obtain ⟨_, _, _, _, q3, q4, fz⟩ := hr1.cells
    have f0 := fz (1 + 2)
    have f1 := fz (1 + 3)
    have HS := Lib.hid hst
    have HB := Lib.hid hbk
    have HR1 := Lib.hid hr1
    have HW1 := Lib.hid hw1
    clear fz hst hbk hr1 hw1
    go_wp2
    go_ret
    rw [HL.out]
    have hm2 : Mod [R] w1 (w1.setCell ⟨R, 3, none⟩ (.slice a l.length cap)) := (Mod.refl _ _).setCell (by simp) _
    exact ⟨rfl, _, HS.out.mod hm2 (fun g hg => by have := (HB.out g hg).1; simp; omega), HB.out.mod hm2 (by simp; exact hRw), ⟨_, HR1.out.set3 _, HW1.out.mod hm2⟩, hm1.trans hm2⟩
  cases hx : ((headT ws).toList == bb_deps.toList) with
  | false =>
    exact key [] true ws (by unfold listOf; rw [hx]; rfl) (elements_none _ R bb_deps ws v kd nm dv vv w HR.out HW.out hs hx)
  | true =>
    obtain ⟨x, r, rfl⟩ := head_cons hx (by decide)
    exact key _ _ _ (by unfold listOf; rw [hx]; rfl) (elements_freeLabel R bb_deps x r v kd nm dv vv w HR.out HW.out hs hx)
set_option maxHeartbeats 1000000 in
theorem visible_any (R : Nat) (ws : Words) (v : Value) (kd : Int) (nm : ByteArray) (dv vv : Value) (w : World) (hr : Rd w R v kd nm dv vv) (hw : RdW w R ws v) (hs : SmallW ws) :
    Calls Tryd.prog 30 #[.pointer (some ⟨R, 0, none⟩)] w (VisPost R (listOf bb_visible viewerS ws) kd nm dv w) := by
  have HR := Lib.hid hr
  have HW := Lib.hid hw
  have hRw : R < w.heap.size := hr.cells.1
  clear hr hw
  have key : ∀ (l : List ByteArray) (b : Bool) (rest : Words), listOf bb_visible viewerS ws = (l, b, rest) → Calls Tryd.prog 57 #[.pointer (some ⟨R, 0, none⟩), .string bb_visible, .func (.func 59) #[] #[]] w (ElemPost R l b rest kd nm dv vv w) →
      Calls Tryd.prog 30 #[.pointer (some ⟨R, 0, none⟩)] w (VisPost R (listOf bb_visible viewerS ws) kd nm dv w) := by
    intro l b rest hl hc
    have HL := Lib.hid hl
    have HC := Lib.hid hc
    clear hl hc
    go_enter Tryd.func30, Tryd.ntmps30
    go_wp2_with (fail)
    refine HC.out.mono ?_
    rintro e w1 ⟨lv, rfl, hst, hbk, ⟨v', hr1, hw1⟩, hm1⟩
    obtain ⟨a, cap, rfl⟩ := hst.val
    obtain ⟨_, _, _, _, q3, q4, fz⟩ := hr1.cells
    have f0 := fz (1 + 2)
    have f1 := fz (1 + 3)
    have HS := Lib.hid hst
    have HB := Lib.hid hbk
    have HR1 := Lib.hid hr1
    have HW1 := Lib.hid hw1
    clear fz hst hbk hr1 hw1
    go_wp2
    go_ret
    rw [HL.out]
    have hm2 : Mod [R] w1 (w1.setCell ⟨R, 4, none⟩ (.slice a l.length cap)) := (Mod.refl _ _).setCell (by simp) _
    exact ⟨rfl, _, HS.out.mod hm2 (fun g hg => by have := (HB.out g hg).1; simp; omega), HB.out.mod hm2 (by simp; exact hRw), ⟨_, HR1.out.set4 _, HW1.out.mod hm2⟩, hm1.trans hm2⟩
  cases hx : ((headT ws).toList == bb_visible.toList) with
  | false =>
    exact key [] true ws (by unfold listOf; rw [hx]; rfl) (elements_none _ R bb_visible ws v kd nm dv vv w HR.out HW.out hs hx)
  | true =>
    obtain ⟨x, r, rfl⟩ := head_cons hx (by decide)
    exact key _ _ _ (by unfold listOf; rw [hx]; rfl) (elements_viewer R bb_visible x r v kd nm dv vv w HR.out HW.out hs hx)
end Go.Proofs.YtgcmekpfhagnbaaDoor
