/- The law CommuteNeeds. -/
import Derived.Test.YtlcpdhionefmbaaGreatDoorV1
import Derived.Test.YtlcpdhionefmbaaGreatDoorW2
namespace Go.Proofs.YtlcpdhionefmbaaGreatDoor
open Go.RowKit Go.Shelf
attribute [local go_sem] Oper.semAt_some

theorem needsOf_len (l : List OEdit) (i : Int) : (needsOf l i).length ≤ l.length := by
  unfold needsOf
  split
  · exact partI_len l i.toNat l.length
  · simp
theorem pickOf_mem {P : OEdit → Prop} {l : List OEdit} (i : Int) (h : ∀ e ∈ l, P e) : ∀ e ∈ pickOf l i, P e := by
  unfold pickOf
  split
  · exact partE_mem h
  · intro e he; simp at he
theorem pickOf_len (l : List OEdit) (i : Int) : (pickOf l i).length ≤ l.length := by
  unfold pickOf
  split
  · exact partE_len l _ l.length
  · simp
theorem dropOf_mem {P : OEdit → Prop} {l : List OEdit} (i : Int) (h : ∀ e ∈ l, P e) : ∀ e ∈ dropOf l i, P e := by
  unfold dropOf
  split
  · exact partE_mem h
  · intro e he; simp at he
theorem dropOf_len (l : List OEdit) (i : Int) : (dropOf l i).length ≤ l.length := by
  unfold dropOf
  split
  · exact partE_len l _ l.length
  · simp
set_option maxRecDepth 100000 in
set_option maxHeartbeats 16000000 in
theorem LCommuteNeeds_any (l : List OEdit) (i : Int) (la : Option Addr) (lc : Nat) (w : World) (hl : Reads w [] (editsT l) (.slice la l.length lc)) (hbl : ∀ x ∈ l, BigE x) (hln : l.length ≤ 4000000) :
    Calls Tryz.prog 5 #[.slice la l.length lc, .int .i64 i] w fun r w' => r = .returned (.bool true) ∧ Below w.heap.size w w' := by
  have HGL := Lib.hid (rGreatEdits_any l la lc w hl (fun x hx => ⟨⟨(hbl x hx).pack, (hbl x hx).text⟩, (hbl x hx).old, (hbl x hx).fresh⟩) hln)
  have HSL : Hid (greatEs l = false → (∀ x ∈ l, SmE x) ∧ l.length ≤ 1000000) := fun h => by
    unfold greatEs at h
    simp only [Bool.or_eq_false_iff, List.any_eq_false, decide_eq_false_iff_not] at h
    exact ⟨fun x hx => smE_of (hbl x hx) (by simpa using h.1 x hx), by omega⟩
  have HL := Lib.hid hl
  clear hl hbl
  go_enter Tryz.func5, Tryz.ntmps5
  generalize greatEs l = gl at *
  go_wp2_with (fail)
  refine HGL.out.mono ?_
  rintro r w1 ⟨rfl, hb1⟩
  have HW1 := Lib.hid hb1
  clear hb1 HGL
  cases gl with
  | true =>
    go_wp2_with (fail)
    refine (awake35_any _).mono ?_
    rintro r w9 ⟨rfl, hb9⟩
    have HF9 := Lib.hid (qtrans HW1.out hb9)
    clear hb9
    go_wp2
    go_ret
    exact ⟨rfl, HF9.out⟩
  | false =>
  obtain ⟨hsl, hll⟩ := HSL.out (by first | exact rfl | exact trivial)
  have HN1 := Lib.hid (fun W (h : Below w.heap.size w W) => cNeeds_any l i la lc W (HL.out.below h) hsl hll)
  have HN2 := Lib.hid (fun W (h : Below w.heap.size w W) => rNeeds_any l i la lc W (HL.out.below h) hsl hll)
  have HP1 := Lib.hid (fun W (h : Below w.heap.size w W) => cPick_any l i la lc W (HL.out.below h) hsl hll)
  have HP2 := Lib.hid (fun W (h : Below w.heap.size w W) => rPick_any l i la lc W (HL.out.below h) hsl hll)
  have HD1 := Lib.hid (fun W (h : Below w.heap.size w W) => cDrop_any l i la lc W (HL.out.below h) hsl hll)
  have HD2 := Lib.hid (fun W (h : Below w.heap.size w W) => rDrop_any l i la lc W (HL.out.below h) hsl hll)
  have HPM := Lib.hid (pickOf_mem i hsl)
  have HDM := Lib.hid (dropOf_mem i hsl)
  have hpn := pickOf_len l i
  have hdn := dropOf_len l i
  have hnn := needsOf_len l i
  have HPN : Hid ((pickOf l i).length ≤ 1000000) := Lib.hid (by omega)
  have HDN : Hid ((dropOf l i).length ≤ 1000000) := Lib.hid (by omega)
  have HNN : Hid ((needsOf l i).length ≤ 1000000) := Lib.hid (by omega)
  clear hsl HSL HL hpn hdn hnn
  generalize pickOf l i = pl at *
  generalize dropOf l i = dl at *
  generalize needsOf l i = nl at *
  generalize checkErr l i = ce at *
  have HCE := Lib.hid (by simp : ((ce : Int) == ce) = true)
  go_wp2_with (fail)
  refine (HN1.out _ HW1.out).mono ?_
  rintro r w2 ⟨v2, rfl, hr2, hb2⟩
  have HW2 := Lib.hid (qtrans HW1.out hb2)
  have R2 := Lib.hid hr2
  clear hr2 hb2 HN1
  go_wp2_with (fail)
  refine (HN2.out _ HW2.out).mono ?_
  rintro r w3 ⟨v3, rfl, hr3, hb3⟩
  have HW3 := Lib.hid (qtrans HW2.out hb3)
  have R3 := Lib.hid hr3
  have R2 := Lib.hid (R2.out.below hb3)
  clear hr3 hb3 HN2
  go_wp2_with (fail)
  refine (HP1.out _ HW3.out).mono ?_
  rintro r w4 ⟨_, rfl, ⟨a4, c4, rfl⟩, hr4, hb4⟩
  have HW4 := Lib.hid (qtrans HW3.out hb4)
  have R4 := Lib.hid hr4
  have R2 := Lib.hid (R2.out.below hb4)
  have R3 := Lib.hid (R3.out.below hb4)
  clear hr4 hb4 HP1
  go_wp2_with (fail)
  refine (HP2.out _ HW4.out).mono ?_
  rintro r w5 ⟨_, rfl, ⟨a5, c5, rfl⟩, hr5, hb5⟩
  have HW5 := Lib.hid (qtrans HW4.out hb5)
  have R5 := Lib.hid hr5
  have R2 := Lib.hid (R2.out.below hb5)
  have R3 := Lib.hid (R3.out.below hb5)
  have R4 := Lib.hid (R4.out.below hb5)
  clear hr5 hb5 HP2
  go_wp2_with (fail)
  refine (HD1.out _ HW5.out).mono ?_
  rintro r w6 ⟨_, rfl, ⟨a6, c6, rfl⟩, hr6, hb6⟩
  have HW6 := Lib.hid (qtrans HW5.out hb6)
  have R6 := Lib.hid hr6
  have R2 := Lib.hid (R2.out.below hb6)
  have R3 := Lib.hid (R3.out.below hb6)
  have R4 := Lib.hid (R4.out.below hb6)
  have R5 := Lib.hid (R5.out.below hb6)
  clear hr6 hb6 HD1
  go_wp2_with (fail)
  refine (HD2.out _ HW6.out).mono ?_
  rintro r w7 ⟨_, rfl, ⟨a7, c7, rfl⟩, hr7, hb7⟩
  have HW7 := Lib.hid (qtrans HW6.out hb7)
  have R7 := Lib.hid hr7
  have R2 := Lib.hid (R2.out.below hb7)
  have R3 := Lib.hid (R3.out.below hb7)
  have R4 := Lib.hid (R4.out.below hb7)
  have R5 := Lib.hid (R5.out.below hb7)
  have R6 := Lib.hid (R6.out.below hb7)
  clear hr7 hb7 HD2
  have hce := HCE.out
  have hs1 := sameIs_iff.2 (rfl : nl = nl)
  have hs2 := sameEs_iff.2 (rfl : pl = pl)
  have hs3 := sameEs_iff.2 (rfl : dl = dl)
  have HS1 := Lib.hid (rSameInts_any nl nl _ _ w7 R2.out R3.out HNN.out HNN.out)
  have HS2 := Lib.hid (fun W (h : Below w7.heap.size w7 W) => r34SameAll_any pl pl _ _ _ _ W (R4.out.below h) (R5.out.below h) HPM.out HPN.out)
  have HS3 := Lib.hid (fun W (h : Below w7.heap.size w7 W) => r34SameAll_any dl dl _ _ _ _ W (R6.out.below h) (R7.out.below h) HDM.out HDN.out)
  rw [hs1] at HS1
  rw [hs2] at HS2
  rw [hs3] at HS3
  clear hs1 hs2 hs3 R2 R3 R4 R5 R6 R7
  go_wp2_with (fail)
  refine HS1.out.mono ?_
  rintro r w8 ⟨rfl, hb8⟩
  have HK8 := Lib.hid hb8
  have HW8 := Lib.hid (qtrans HW7.out hb8)
  clear hb8 HS1
  go_wp2_with (fail)
  refine (HS2.out _ HK8.out).mono ?_
  rintro r w9 ⟨rfl, hb9⟩
  have HK9 := Lib.hid (qtrans HK8.out hb9)
  have HW9 := Lib.hid (qtrans HW8.out hb9)
  clear hb9 HS2
  go_wp2_with (fail)
  refine (HS3.out _ HK9.out).mono ?_
  rintro r w10 ⟨rfl, hb10⟩
  have HW10 := Lib.hid (qtrans HW9.out hb10)
  clear hb10 HS3
  go_wp2_with (fail)
  refine (awake35_any _).mono ?_
  rintro r w12 ⟨rfl, hb12⟩
  have HF12 := Lib.hid (qtrans HW10.out hb12)
  clear hb12
  go_wp2
  go_ret
  exact ⟨rfl, HF12.out⟩
end Go.Proofs.YtlcpdhionefmbaaGreatDoor
