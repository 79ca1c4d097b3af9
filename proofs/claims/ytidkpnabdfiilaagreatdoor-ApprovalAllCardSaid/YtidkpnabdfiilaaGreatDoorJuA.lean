/- approval.judge: what a person sees is encoded once. -/
import Derived.Test.YtidkpnabdfiilaaGreatDoorEnA
import Derived.Test.YtidkpnabdfiilaaGreatDoorApB
namespace Go.Proofs.YtidkpnabdfiilaaGreatDoor
open Go.RowKit Go.Shelf
attribute [local go_sem] run_mkMap

theorem judge_any (a : Option Addr) (n c : Nat) (w : World) :
    Calls Tryz.prog 66 #[.slice a n c] w fun e w' => e = .returned (.func (.func 109) #[] #[.pointer (some ⟨w.heap.size + 2, 0, none⟩), .pointer (some ⟨w.heap.size, 0, none⟩)]) ∧ ((w.alloc (.cells #[.slice a n c] 102)).alloc (.map #[] 0)).alloc (.cells #[.map (some (w.heap.size + 1))] 114) = w' := by
  go_enter Tryz.func66, Tryz.ntmps66
  go_wp2
  go_ret
  exact ⟨by simp, by simp⟩
def viewF (l : List OwnedC) (who : ByteArray) : ByteArray := bOf (encC (seenFrom who l))
def goodV (l : List OwnedC) (f : List UInt8 → Option Value) : Prop := ∀ (s : ByteArray) v, f s.data.toList = some v → v = .string (viewF l s)
/-- The judge's cells: the changes in block B, the map in B + 1, its box in B + 2. -/
structure JudgeIs (l : List OwnedC) (lv : Value) (B k : Nat) (w : World) : Prop where
  cl : CBox w B 102 #[lv]
  cv : CBox w (B + 2) 114 #[.map (some (B + 1))]
  mp : ∃ n f, n ≤ k ∧ IsMapS Tryz.prog 9 w (B + 1) n f ∧ goodV l f
theorem JudgeIs.below {l : List OwnedC} {lv : Value} {B k : Nat} {w w' : World} (h : JudgeIs l lv B k w) (m : Below w.heap.size w w') : JudgeIs l lv B k w' := by
  obtain ⟨n, f, h0, h1, h2⟩ := h.mp
  exact ⟨h.cl.below m, h.cv.below m, n, f, h0, h1.below m, h2⟩
theorem JudgeIs.kept {l : List OwnedC} {lv : Value} {B k : Nat} {w w' : World} {row : Option Nat} (h : JudgeIs l lv B k w) (hg : w.grownBy w' row) (hr : NoCells w row) (hne : some (B + 1) ≠ row) : JudgeIs l lv B k w' := by
  obtain ⟨n, f, h0, h1, h2⟩ := h.mp
  exact ⟨h.cl.own hg hr, h.cv.own hg hr, n, f, h0, h1.kept hg hne, h2⟩
theorem JudgeIs.new (l : List OwnedC) (lv : Value) (w : World) : JudgeIs l lv w.heap.size 0 (((w.alloc (.cells #[lv] 102)).alloc (.map #[] 0)).alloc (.cells #[.map (some (w.heap.size + 1))] 114)) := by
  refine ⟨((CBox.new w 102 #[lv]).alloc _).alloc _, ?_, 0, fun _ => none, Nat.le_refl _, ?_, fun s v h => by cases h⟩
  · have := CBox.new ((w.alloc (.cells #[lv] 102)).alloc (.map #[] 0)) 114 #[.map (some (w.heap.size + 1))]
    simpa using this
  · have := (IsMapS.made Tryz.prog 9 (w.alloc (.cells #[lv] 102))).below (qalloc _ (.cells #[.map (some (w.heap.size + 1))] 114))
    simpa using this
theorem goodV_put {l : List OwnedC} {f : List UInt8 → Option Value} (h : goodV l f) (s : ByteArray) : goodV l (fun x => if x = s.data.toList then some (.string (viewF l s)) else f x) := by
  intro t v hv
  simp only [] at hv
  by_cases e : t.data.toList = s.data.toList
  · rw [if_pos e] at hv
    have : t = s := bytes_eq e
    subst this
    cases hv; rfl
  · rw [if_neg e] at hv
    exact h t v hv
def smallO (l : List OwnedC) : Prop := l.length ≤ 4000 ∧ (∀ x ∈ l, SmallC x.1) ∧ ∀ x ∈ l, ∀ g ∈ x.2, g.length ≤ 40000
theorem smallO_seen {l : List OwnedC} (h : smallO l) (who : ByteArray) : (seenFrom who l).length ≤ 4000 ∧ ∀ c ∈ seenFrom who l, SmallC c := by
  refine ⟨Nat.le_trans (seenFrom_len who l) h.1, fun c hc => ?_⟩
  obtain ⟨x, hx, rfl⟩ := List.mem_map.1 hc
  exact h.2.1 x (List.mem_filter.1 hx).1
set_option maxRecDepth 100000 in
set_option maxHeartbeats 2000000 in
theorem judge1_any (a : Appr) (ha : a.who.size ≤ 40000) (l : List OwnedC) (hl : smallO l) (lv : Value) (B k : Nat) (hk : k ≤ 40000) (w : World) (hr : Reads w [] (ownedsT l) lv) (h : JudgeIs l lv B k w) :
    Calls Tryz.prog 109 #[.agg #[.string a.who, .int .i64 a.change, .string a.saw], .pointer (some ⟨B + 2, 0, none⟩), .pointer (some ⟨B, 0, none⟩)] w fun e w' =>
      e = .returned (.bool (a.saw.toList == (viewF l a.who).toList)) ∧ JudgeIs l lv B (k + 1) w' ∧ Mod [B + 1] w w' := by
  obtain ⟨la, lc, rfl, hla, hlc⟩ := owneds_val hr
  have HS := Lib.hid (smallO_seen hl a.who)
  have HG := Lib.hid hl.2.2
  have hl1 := hl.1
  have hA := qalloc w (.cells #[.string a.who, .int .i64 a.change, .string a.saw] 51)
  have HA := Lib.hid hA
  have HR := Lib.hid (hr.below hA)
  have HJ := Lib.hid (h.below hA)
  have HX := Lib.hid (CBox.new w 51 #[.string a.who, .int .i64 a.change, .string a.saw])
  have HV : Hid (viewF l a.who = bOf (encC (seenFrom a.who l))) := rfl
  clear hr h hA hl
  have c1 := HJ.out.cv.cell (i := 0) rfl
  have l1 := HJ.out.cv.lt
  have x0 := HX.out.cell (i := 0) rfl
  have x2 := HX.out.cell (i := 2) rfl
  have xl := HX.out.lt
  obtain ⟨n, f, hnk, hm, hgood⟩ := HJ.out.mp
  have hlook := hm.lookOk strKeyed Tryz.underlying114 (Tryz.zeroValue9 _) (key_str a.who ha)
  have HM := Lib.hid hm
  have HGD := Lib.hid hgood
  clear hm
  cases hf : f a.who.data.toList with
  | some v =>
    obtain rfl := hgood a.who v hf
    rw [hf] at hlook
    have HJ1 : Hid (JudgeIs l (.slice la l.length lc) B (k + 1) (w.alloc (.cells #[.string a.who, .int .i64 a.change, .string a.saw] 51))) := ⟨HJ.out.cl, HJ.out.cv, n, f, by omega, HM.out, HGD.out⟩
    clear hgood hf
    generalize viewF l a.who = vw at *
    go_enter Tryz.func109, Tryz.ntmps109
    go_wp2
    go_ret
    exact ⟨rfl, HJ1.out, Mod.of HA.out⟩
  | none =>
    rw [hf] at hlook
    clear hgood hf
    have c0 := HJ.out.cl.cell (i := 0) rfl
    have l0 := HJ.out.cl.lt
    go_enter Tryz.func109, Tryz.ntmps109
    go_wp2_with (fail)
    refine (seen_any _ _ _ a.who _).mono ?_
    rintro e w2 ⟨rfl, rfl⟩
    generalize w.alloc (.cells #[.string a.who, .int .i64 a.change, .string a.saw] 51) = w1 at *
    have hA1 := qalloc w1 (.cells #[.slice la l.length lc] 102)
    have hA2 := qalloc (w1.alloc (.cells #[.slice la l.length lc] 102)) (.cells #[.string a.who] 9)
    have hB1 := (CBox.new w1 102 #[.slice la l.length lc]).below hA2
    have hB2 := CBox.new (w1.alloc (.cells #[.slice la l.length lc] 102)) 9 #[.string a.who]
    rw [World.size_alloc] at hB2
    have HC := Lib.hid (Collect_seen l (.slice la l.length lc) a.who _ w1.heap.size (w1.heap.size + 1) (hB1.cell (i := 0) rfl) (hB2.cell (i := 0) rfl) ((HR.out.below hA1).below hA2) (by omega) HG.out)
    have hb2 := qtrans hA1 hA2
    clear hB1 hB2 hA1 hA2 HR c0 l0 c1 l1 x0 x2 xl hlook
    generalize (w1.alloc (.cells #[.slice la l.length lc] 102)).alloc (.cells #[.string a.who] 9) = w2 at *
    go_wp2_with (fail)
    refine HC.out.mono ?_
    rintro e w3 ⟨cv, rfl, hcv, hb3⟩
    have HCV := Lib.hid hcv.reads
    have hb23 := qtrans hb2 hb3
    clear hcv hb2 hb3 HC
    go_wp2_with (fail)
    refine (encode_any cv _ w3 HCV.out HS.out.1 HS.out.2).mono ?_
    rintro e w4 ⟨rfl, hb4⟩
    rw [← HV.out]
    have hb24 := qtrans hb23 hb4
    have HX4 := Lib.hid (HX.out.below hb24)
    have HM4 := Lib.hid (HM.out.below hb24)
    have HJ4 := Lib.hid (HJ.out.below hb24)
    have HB4 := Lib.hid (qtrans HA.out hb24)
    obtain ⟨w5, hput, hm5, hg5⟩ := HM4.out.put strKeyed Tryz.underlying114 (by unfold maxLen; omega) (key_str a.who ha) (.string (viewF l a.who))
    have HX5 := Lib.hid (HX4.out.own hg5 HM4.out.noCells)
    have HJ5 : Hid (JudgeIs l (.slice la l.length lc) B (k + 1) w5) := ⟨HJ4.out.cl.own hg5 HM4.out.noCells, HJ4.out.cv.own hg5 HM4.out.noCells, n + 1, _, by omega, hm5, goodV_put HGD.out a.who⟩
    have HMD : Hid (Mod [B + 1] w w5) := (Mod.of HB4.out).trans (mod_of_grown hg5)
    have c4 := HJ4.out.cv.cell (i := 0) rfl
    have l4 := HJ4.out.cv.lt
    have y0 := HX4.out.cell (i := 0) rfl
    have yl := HX4.out.lt
    have z2 := HX5.out.cell (i := 2) rfl
    have zl := HX5.out.lt
    clear HX HM HJ hb23 hb4 hb24 HCV HX4 HM4 HJ4 HB4 hm5 hg5 HX5 HGD HS HG HA
    generalize hvw : viewF l a.who = vw at *
    have HVW := Lib.hid hvw
    clear hvw
    go_wp2
    go_ret
    exact ⟨by rw [HVW.out]; rfl, HJ5.out, HMD.out⟩
end Go.Proofs.YtidkpnabdfiilaaGreatDoor
