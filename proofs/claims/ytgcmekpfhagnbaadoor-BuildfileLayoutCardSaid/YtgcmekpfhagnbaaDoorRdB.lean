/- The reader's kind, name, end. -/
import Derived.Test.YtgcmekpfhagnbaaDoorRdA
namespace Go.Proofs.YtgcmekpfhagnbaaDoor
open Go.RowKit

def b_lib : ByteArray := ⟨#[108, 105, 98]⟩
def b_test : ByteArray := ⟨#[116, 101, 115, 116]⟩
def b_semi : ByteArray := ⟨#[59]⟩
def After (R : Nat) (b : Bool) (ws : Words) (kd : Int) (nm : ByteArray) (dv vv : Value) (w : World) (e : Ending) (w' : World) : Prop :=
  e = .returned (.bool b) ∧ (∃ v', Rd w' R v' kd nm dv vv ∧ RdW w' R ws v') ∧ Mod [R] w w'

/-- The kind that the first word tells, if it tells one. -/
def kindOf (ws : Words) : Option Int := if (headT ws).toList == b_lib.toList then some 1 else if (headT ws).toList == b_test.toList then some 2 else none
theorem head_cons {ws : Words} {txt : ByteArray} (h : ((headT ws).toList == txt.toList) = true) (hne : txt.data.toList ≠ []) : ∃ x r, ws = x :: r := by
  rw [tl, tl] at h
  cases ws with
  | nil => exact absurd (beq_iff_eq.1 h).symm hne
  | cons x r => exact ⟨x, r, rfl⟩
def KindPost (R : Nat) (ws : Words) (w : World) (e : Ending) (w' : World) : Prop :=
  match kindOf ws with
  | some k => After R true ws.tail k ⟨#[]⟩ (.slice none 0 0) (.slice none 0 0) w e w'
  | none => After R false ws 2 ⟨#[]⟩ (.slice none 0 0) (.slice none 0 0) w e w'
theorem kind_any (R : Nat) (ws : Words) (v : Value) (kd : Int) (nm : ByteArray) (dv vv : Value) (w : World) (hr : Rd w R v kd nm dv vv) (hw : RdW w R ws v) (hs : SmallW ws) :
    Calls Tryd.prog 27 #[.pointer (some ⟨R, 0, none⟩)] w (KindPost R ws w) := by
  obtain ⟨hR, q0, q1, q2, q3, q4, fz⟩ := hr.cells
  have f1 := fz 1
  have f2 := fz (1 + 1)
  have f3 := fz (1 + 2)
  have f4 := fz (1 + 3)
  have hr1 := (((hr.set1 1).set2 ⟨#[]⟩).set3 (.slice none 0 0)).set4 (.slice none 0 0)
  have hm1 : Mod [R] w ((((w.setCell ⟨R, 1, none⟩ (.int .i64 1)).setCell ⟨R, 2, none⟩ (.string ⟨#[]⟩)).setCell ⟨R, 3, none⟩ (.slice none 0 0)).setCell ⟨R, 4, none⟩ (.slice none 0 0)) :=
    ((((Mod.refl [R] w).setCell (p := ⟨R, 1, none⟩) (by simp) _).setCell (p := ⟨R, 2, none⟩) (by simp) _).setCell (p := ⟨R, 3, none⟩) (by simp) _).setCell (p := ⟨R, 4, none⟩) (by simp) _
  have hw1 := hw.mod hm1
  have HR := Lib.hid hr1
  have HW := Lib.hid hw1
  have HM := Lib.hid hm1
  clear fz hr hw hr1 hw1 hm1
  cases hl : ((headT ws).toList == b_lib.toList) with
  | true =>
    have hk : kindOf ws = some 1 := by unfold kindOf; rw [hl]; rfl
    obtain ⟨x, r, rfl⟩ := head_cons hl (by decide)
    have HP : Hid (KindPost R (x :: r) w = After R true r 1 ⟨#[]⟩ (.slice none 0 0) (.slice none 0 0) w) := by
      show _ = _; funext e w'; unfold KindPost; rw [hk]; rfl
    clear hk
    go_enter Tryd.func27, Tryd.ntmps27
    go_wp2_with (go_at_call 54; refine (skip_yes R x r b_lib _ _ _ _ _ _ HR.out HW.out hs hl).mono ?_; rintro e w' ⟨rfl, ⟨v', hr', hw'⟩, hm'⟩)
    go_ret
    rw [HP.out]
    exact ⟨rfl, ⟨v', hr', hw'⟩, HM.out.trans hm'⟩
  | false =>
    generalize hW : ((((w.setCell ⟨R, 1, none⟩ (.int .i64 1)).setCell ⟨R, 2, none⟩ (.string ⟨#[]⟩)).setCell ⟨R, 3, none⟩ (.slice none 0 0)).setCell ⟨R, 4, none⟩ (.slice none 0 0)) = W1 at *
    obtain ⟨_, _, p1, _, _, _, gz⟩ := HR.out.cells
    have g1 := gz 1
    clear gz
    have HR2 := Lib.hid (HR.out.set1 2)
    have HM2 := Lib.hid ((Mod.refl [R] W1).setCell (p := ⟨R, 1, none⟩) (by simp) (.int .i64 2))
    have HW2 := Lib.hid (HW.out.mod HM2.out)
    have HWW := Lib.hid hW
    clear hW
    cases ht : ((headT ws).toList == b_test.toList) with
    | true =>
      have hk : kindOf ws = some 2 := by unfold kindOf; rw [hl, ht]; rfl
      obtain ⟨x, r, rfl⟩ := head_cons ht (by decide)
      have HP : Hid (KindPost R (x :: r) w = After R true r 2 ⟨#[]⟩ (.slice none 0 0) (.slice none 0 0) w) := by
        show _ = _; funext e w'; unfold KindPost; rw [hk]; rfl
      clear hk
      go_enter Tryd.func27, Tryd.ntmps27
      go_wp2_with (fail)
      rw [HWW.out]
      refine (skip_no R (x :: r) b_lib _ _ _ _ _ _ HR.out HW.out hs hl).mono ?_
      rintro e w' ⟨rfl, rfl⟩
      go_wp2_with (fail)
      refine (skip_yes R x r b_test _ _ _ _ _ _ HR2.out HW2.out hs ht).mono ?_
      rintro e w' ⟨rfl, ⟨v', hr', hw'⟩, hm'⟩
      go_wp2
      go_ret
      rw [HP.out]
      exact ⟨rfl, ⟨v', hr', hw'⟩, (HM.out.trans HM2.out).trans hm'⟩
    | false =>
      have hk : kindOf ws = none := by unfold kindOf; rw [hl, ht]; rfl
      have HP : Hid (KindPost R ws w = After R false ws 2 ⟨#[]⟩ (.slice none 0 0) (.slice none 0 0) w) := by
        show _ = _; funext e w'; unfold KindPost; rw [hk]
      clear hk
      go_enter Tryd.func27, Tryd.ntmps27
      go_wp2_with (fail)
      rw [HWW.out]
      refine (skip_no R ws b_lib _ _ _ _ _ _ HR.out HW.out hs hl).mono ?_
      rintro e w' ⟨rfl, rfl⟩
      go_wp2_with (fail)
      refine (skip_no R ws b_test _ _ _ _ _ _ HR2.out HW2.out hs ht).mono ?_
      rintro e w' ⟨rfl, rfl⟩
      go_wp2
      go_ret
      rw [HP.out]
      exact ⟨rfl, ⟨_, HR2.out, HW2.out⟩, HM.out.trans HM2.out⟩

theorem freeName_ne {s : ByteArray} (h : freeNameS s = true) : s.data.toList ≠ [] := by
  intro e
  rw [freeNameS, e] at h
  revert h
  decide
def NamePost (R : Nat) (ws : Words) (kd : Int) (dv vv : Value) (w : World) (e : Ending) (w' : World) : Prop :=
  if freeNameS (headT ws) then After R true ws.tail kd (headT ws) dv vv w e w' else After R false ws kd (headT ws) dv vv w e w'
theorem name_any (R : Nat) (ws : Words) (v : Value) (kd : Int) (nm : ByteArray) (dv vv : Value) (w : World) (hr : Rd w R v kd nm dv vv) (hw : RdW w R ws v) (hs : SmallW ws) :
    Calls Tryd.prog 28 #[.pointer (some ⟨R, 0, none⟩)] w (NamePost R ws kd dv vv w) := by
  obtain ⟨hR, q0, q1, q2, q3, q4, fz⟩ := hr.cells
  have f2 := fz (1 + 1)
  have HM := Lib.hid ((Mod.refl [R] w).setCell (p := ⟨R, 2, none⟩) (by simp) (.string (headT ws)))
  have HR0 := Lib.hid hr
  have HW0 := Lib.hid hw
  have HR := Lib.hid (hr.set2 (headT ws))
  have HW := Lib.hid (hw.mod HM.out)
  clear fz hr hw
  generalize hW : w.setCell ⟨R, 2, none⟩ (.string (headT ws)) = W1 at *
  have HWW := Lib.hid hW
  clear hW
  obtain ⟨_, _, _, p2, _, _, _⟩ := HR.out.cells
  cases hf : freeNameS (headT ws) with
  | true =>
    have HP : Hid (NamePost R ws kd dv vv w = After R true ws.tail kd (headT ws) dv vv w) := by
      show _ = _; funext e w'; unfold NamePost; rw [hf]; rfl
    obtain ⟨x, r, rfl⟩ : ∃ x r, ws = x :: r := head_cons (txt := headT ws) (by simp) (freeName_ne hf)
    go_enter Tryd.func28, Tryd.ntmps28
    go_wp2_with (go_at_call 55; refine (next_any R (x :: r) _ _ _ _ _ _ HR0.out HW0.out hs).mono ?_; rintro e w' ⟨rfl, rfl⟩)
    rw [HWW.out]
    refine (freeName_any _ _ hs.head).mono ?_
    rintro e w2 ⟨rfl, hb2⟩
    obtain ⟨_, _, _, p2', _, _, _⟩ := (HR.out.below hb2).cells
    go_wp2_with (fail)
    refine (skip_yes R x r _ _ _ _ _ _ _ (HR.out.below hb2) (HW.out.below hb2) hs (by simp [headT])).mono ?_
    rintro e w3 ⟨rfl, ⟨v', hr', hw'⟩, hm'⟩
    go_wp2
    go_ret
    rw [HP.out]
    exact ⟨rfl, ⟨v', hr', hw'⟩, (HM.out.trans (Mod.of hb2)).trans hm'⟩
  | false =>
    have HP : Hid (NamePost R ws kd dv vv w = After R false ws kd (headT ws) dv vv w) := by
      show _ = _; funext e w'; unfold NamePost; rw [hf]; rfl
    go_enter Tryd.func28, Tryd.ntmps28
    go_wp2_with (go_at_call 55; refine (next_any R ws _ _ _ _ _ _ HR0.out HW0.out hs).mono ?_; rintro e w' ⟨rfl, rfl⟩)
    rw [HWW.out]
    refine (freeName_any _ _ hs.head).mono ?_
    rintro e w2 ⟨rfl, hb2⟩
    go_wp2
    go_ret
    rw [HP.out]
    exact ⟨rfl, ⟨_, HR.out.below hb2, HW.out.below hb2⟩, HM.out.trans (Mod.of hb2)⟩
def EndPost (R : Nat) (ws : Words) (kd : Int) (nm : ByteArray) (dv vv : Value) (w : World) (e : Ending) (w' : World) : Prop :=
  if (headT ws).toList == b_semi.toList then After R true ws.tail kd nm dv vv w e w' else After R false ws kd nm dv vv w e w'
theorem end_any (R : Nat) (ws : Words) (v : Value) (kd : Int) (nm : ByteArray) (dv vv : Value) (w : World) (hr : Rd w R v kd nm dv vv) (hw : RdW w R ws v) (hs : SmallW ws) :
    Calls Tryd.prog 31 #[.pointer (some ⟨R, 0, none⟩)] w (EndPost R ws kd nm dv vv w) := by
  have HR := Lib.hid hr
  have HW := Lib.hid hw
  clear hr hw
  cases hf : ((headT ws).toList == b_semi.toList) with
  | true =>
    have HP : Hid (EndPost R ws kd nm dv vv w = After R true ws.tail kd nm dv vv w) := by
      show _ = _; funext e w'; unfold EndPost; rw [hf]; rfl
    obtain ⟨x, r, rfl⟩ := head_cons hf (by decide)
    go_enter Tryd.func31, Tryd.ntmps31
    go_wp2_with (go_at_call 54; refine (skip_yes R x r b_semi _ _ _ _ _ _ HR.out HW.out hs hf).mono ?_; rintro e w' ⟨rfl, ⟨v', hr', hw'⟩, hm'⟩)
    go_ret
    rw [HP.out]
    exact ⟨rfl, ⟨v', hr', hw'⟩, hm'⟩
  | false =>
    have HP : Hid (EndPost R ws kd nm dv vv w = After R false ws kd nm dv vv w) := by
      show _ = _; funext e w'; unfold EndPost; rw [hf]; rfl
    go_enter Tryd.func31, Tryd.ntmps31
    go_wp2_with (go_at_call 54; refine (skip_no R ws b_semi _ _ _ _ _ _ HR.out HW.out hs hf).mono ?_; rintro e w' ⟨rfl, rfl⟩)
    go_ret
    rw [HP.out]
    exact ⟨rfl, ⟨_, HR.out, HW.out⟩, Mod.refl _ _⟩
end Go.Proofs.YtgcmekpfhagnbaaDoor
