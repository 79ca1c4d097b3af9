/- The law's great and awake. -/
import Derived.Test.YtidkpnabdfiilaaGreatDoorXeC
import Derived.Test.YtidkpnabdfiilaaGreatDoorMiA
import Derived.Test.YtidkpnabdfiilaaGreatDoorAwP
import Derived.Test.YtidkpnabdfiilaaGreatDoorQ17
namespace Go.Proofs.YtidkpnabdfiilaaGreatDoor
open Go.RowKit
attribute [local go_sem] Oper.semAt_some

def filessT (ls : List (List OFile)) : Tree := rowT 1 (fun fs => [filesT fs]) ls
set_option maxHeartbeats 1000000 in
theorem great55_any (v : Value) (ls : List (List OFile)) (w : World) (hv : Reads w [] (filessT ls) v) (hz : ∀ fs ∈ ls, SizedF fs) :
    Calls Tryz.prog 25 #[v] w fun e w' => e = .returned (.bool (ls.any greatF)) ∧ w = w' := by
  obtain ⟨a, cap, rfl, hc1, hc2⟩ := Reads.val hv
  have HV := Lib.hid hv
  have HZ := Lib.hid hz
  clear hv hz
  go_enter Tryz.func25, Tryz.ntmps25
  go_wp2
  go_loop [7] (fun i => ∃ k : Nat, k ≤ ls.length ∧ i = .int .i64 k ∧ Hid (∀ (j : Nat) (fs : List OFile), j < k → ls[j]? = some fs → greatF fs = false)) (fun i => ls.length - (intOf i).toNat)
  case atStart => exact ⟨0, Nat.zero_le _, rfl, fun j g hj => by omega⟩
  case round =>
    obtain ⟨k, hk, rfl, HK⟩ := hrel
    have hk0 : (0 : Int) ≤ (k : Int) := by omega
    by_cases hlt : k < ls.length
    · obtain ⟨g, hg⟩ : ∃ g, ls[k]? = some g := ⟨_, List.getElem?_eq_getElem hlt⟩
      obtain ⟨b, o, rfl, hb, hc⟩ := Reads.elem (size := 1) (f := fun fs : List OFile => [filesT fs]) (fun _ => rfl) HV.out hg
      obtain ⟨u, hu, hr⟩ := hc 0 _ rfl
      have hu' : w.cell? ⟨b, o + k, none⟩ = some u := by simpa using hu
      have hk1 : (k : Int) < (ls.length : Int) := by omega
      have HT : Hid (greatF g = true → ls.any greatF = true) := fun e => by rw [List.any_eq_true]; exact ⟨g, List.mem_of_getElem? hg, e⟩
      have HF : Hid (greatF g = false → ∀ (j : Nat) (fs : List OFile), j < k + 1 → ls[j]? = some fs → greatF fs = false) := fun e j g' hj hg' => by
        by_cases ej : j = k
        · rw [ej, hg] at hg'; cases hg'; exact e
        · exact HK.out j g' (by omega) hg'
      have HCL := Lib.hid (rGreat09_any u g w hr (HZ.out g (List.mem_of_getElem? hg)))
      clear hg hc hr hu
      cases hm : greatF g with
      | true =>
        have H := Lib.hid (HT.out hm)
        rw [hm] at HCL
        go_wp2_with (fail)
        refine HCL.out.mono ?_
        rintro e w' ⟨rfl, rfl⟩
        go_wp2
        go_ret
        exact ⟨ret_bool (by rw [H.out]), rfl⟩
      | false =>
        have H := Lib.hid (HF.out hm)
        rw [hm] at HCL
        go_wp2_with (fail)
        refine HCL.out.mono ?_
        rintro e w' ⟨rfl, rfl⟩
        go_wp2
        go_round
        case rel => exact ⟨k + 1, by omega, by go_num, H⟩
        case measure => simp [intOf]; omega
    · have H : Hid (ls.any greatF = false) := by
        show _ = _
        rw [List.any_eq_false]
        intro g hg
        obtain ⟨i, hi, rfl⟩ := List.getElem_of_mem hg
        rw [HK.out i _ (by omega) (List.getElem?_eq_getElem hi)]; simp
      go_wp2
      go_ret
      exact ⟨ret_bool (by rw [H.out]), rfl⟩
theorem files3 {w : World} {b : Nat} {p1 d1 p2 d2 p3 d3 : ByteArray} (hB : CBox w b 55 #[.string p1, .string d1, .string p2, .string d2, .string p3, .string d3]) : Reads w [] (filesT [⟨p1, d1⟩, ⟨p2, d2⟩, ⟨p3, d3⟩]) (.slice (some ⟨b, 0, none⟩) 3 3) := by
  refine Reads.ofRow (xs := [.string p1, .string d1, .string p2, .string d2, .string p3, .string d3]) ⟨rfl, _, _, rfl, Nat.le_refl _, by unfold maxLen; omega, fun _ => ⟨b, 0, rfl, hB.lt, fun j u hj => ?_⟩⟩ (fun _ _ _ h => by cases h) ?_
  · match j, hj with
    | 0, hj => cases hj; exact hB.cell (i := 0) rfl
    | 1, hj => cases hj; exact hB.cell (i := 1) rfl
    | 2, hj => cases hj; exact hB.cell (i := 2) rfl
    | 3, hj => cases hj; exact hB.cell (i := 3) rfl
    | 4, hj => cases hj; exact hB.cell (i := 4) rfl
    | 5, hj => cases hj; exact hB.cell (i := 5) rfl
    | (j + 6), hj => cases hj
  · exact ReadsL.cons (Reads.leaf' _ _ _) (ReadsL.cons (Reads.leaf' _ _ _) (ReadsL.cons (Reads.leaf' _ _ _) (ReadsL.cons (Reads.leaf' _ _ _) (ReadsL.cons (Reads.leaf' _ _ _) (ReadsL.cons (Reads.leaf' _ _ _) (ReadsL.nil _ _))))))
theorem appr1 {w : World} {b : Nat} {a : Appr} (hB : CBox w b 51 #[.string a.who, .int .i64 a.change, .string a.saw]) : Reads w [] (apprsT [a]) (.slice (some ⟨b, 0, none⟩) 1 1) := by
  refine Reads.ofRow (xs := [.string a.who, .int .i64 a.change, .string a.saw]) ⟨rfl, _, _, rfl, Nat.le_refl _, by unfold maxLen; omega, fun _ => ⟨b, 0, rfl, hB.lt, fun j u hj => ?_⟩⟩ (fun _ _ _ h => by cases h) ?_
  · match j, hj with
    | 0, hj => cases hj; exact hB.cell (i := 0) rfl
    | 1, hj => cases hj; exact hB.cell (i := 1) rfl
    | 2, hj => cases hj; exact hB.cell (i := 2) rfl
    | (j + 3), hj => cases hj
  · exact ReadsL.cons (Reads.leaf' _ _ _) (ReadsL.cons (Reads.leaf' _ _ _) (ReadsL.cons (Reads.leaf' _ _ _) (ReadsL.nil _ _)))
theorem one_str {w : World} {b : Nat} {s : ByteArray} (hB : CBox w b 9 #[.string s]) : Reads w [] (strsT [s]) (.slice (some ⟨b, 0, none⟩) 1 1) := by
  refine Reads.ofRow (xs := [.string s]) ⟨rfl, _, _, rfl, Nat.le_refl _, by unfold maxLen; omega, fun _ => ⟨b, 0, rfl, hB.lt, fun j u hj => ?_⟩⟩ (fun _ _ _ h => by cases h) ?_
  · match j, hj with
    | 0, hj => cases hj; exact hB.cell (i := 0) rfl
    | (j + 1), hj => cases hj
  · exact ReadsL.cons (Reads.leaf' _ _ _) (ReadsL.nil _ _)
theorem one_group {w : World} {b : Nat} {v : Value} {g : List ByteArray} (h : Reads w [] (strsT g) v) (hB : CBox w b 30 #[v]) : Reads w [] (groupsT [g]) (.slice (some ⟨b, 0, none⟩) 1 1) := by
  refine Reads.ofRow (xs := [v]) ⟨rfl, _, _, rfl, Nat.le_refl _, by unfold maxLen; omega, fun _ => ⟨b, 0, rfl, hB.lt, fun j u hj => ?_⟩⟩ (fun _ _ _ h => by cases h) ?_
  · match j, hj with
    | 0, hj => cases hj; exact hB.cell (i := 0) rfl
    | (j + 1), hj => cases hj
  · exact ReadsL.cons h (ReadsL.nil _ _)
def awF (x y : ByteArray) : Array Value := #[.string ⟨#[79, 87, 78, 69, 82, 83]⟩, .string awOwn, .string ⟨#[100, 111, 99, 47, 121]⟩, .string x, .string ⟨#[120]⟩, .string y]
set_option maxRecDepth 100000 in
set_option maxHeartbeats 4000000 in
theorem awake55_any (w : World) : Calls Tryz.prog 26 #[] w fun e w' => e = .returned (.bool true) ∧ Below w.heap.size w w' := by
  obtain ⟨z1, z2, z3, z4⟩ := aw_small
  have HSW := Lib.hid (fun v1 v2 W h1 h2 => Saw_any v1 v2 awOld awNew awBob W h1 h2 z1 z2 (by decide))
  rw [aw_saw] at HSW
  have HMI := Lib.hid (fun va v1 v2 W ha h1 h2 => Missing_any va v1 v2 [awAppr] 4 awOld awNew W ha (by unfold smallA; exact ⟨by decide, fun a h => by rw [List.mem_singleton.1 h]; decide⟩) h1 h2 z1 z2 (by decide))
  rw [aw_miss] at HMI
  have HS1 := Lib.hid (fun v1 v2 W h1 h2 => AStands_any awAppr v1 v2 awOld awOther W h1 h2 z1 z3 (by decide))
  rw [aw_one] at HS1
  have HS2 := Lib.hid (fun v1 v2 W h1 h2 => AStands_any awAppr v1 v2 awOld awThird W h1 h2 z1 z4 (by decide))
  rw [aw_two] at HS2
  have HAP : Hid (∀ (W : World) (b : Nat), CBox W b 51 #[.string awBob, .int .i64 4, .string (viewOf awOld awNew awBob)] → Reads W [] (apprsT [awAppr]) (.slice (some ⟨b, 0, none⟩) 1 1)) := fun W b h => appr1 (a := awAppr) h
  unfold awAppr at HS1 HS2
  simp only [] at HS1 HS2
  clear z1 z2 z3 z4
  generalize viewOf awOld awNew awBob = vw at *
  unfold awBob at HSW HS1 HS2 HAP
  unfold awAnn at HMI
  go_enter Tryz.func26, Tryz.ntmps26
  go_wp2_with (fail)
  have hA1 := qalloc w (.cells (awF ⟨#[49]⟩ ⟨#[49]⟩) 55)
  have hB1 := CBox.new w 55 (awF ⟨#[49]⟩ ⟨#[49]⟩)
  have hA2 := qalloc (w.alloc (.cells (awF ⟨#[49]⟩ ⟨#[49]⟩) 55)) (.cells (awF ⟨#[50]⟩ ⟨#[50]⟩) 55)
  have hB2 := CBox.new (w.alloc (.cells (awF ⟨#[49]⟩ ⟨#[49]⟩) 55)) 55 (awF ⟨#[50]⟩ ⟨#[50]⟩)
  have hA3 := qalloc ((w.alloc (.cells (awF ⟨#[49]⟩ ⟨#[49]⟩) 55)).alloc (.cells (awF ⟨#[50]⟩ ⟨#[50]⟩) 55)) (.cells (awF ⟨#[50]⟩ ⟨#[51]⟩) 55)
  have hB3 := CBox.new ((w.alloc (.cells (awF ⟨#[49]⟩ ⟨#[49]⟩) 55)).alloc (.cells (awF ⟨#[50]⟩ ⟨#[50]⟩) 55)) 55 (awF ⟨#[50]⟩ ⟨#[51]⟩)
  have hA4 := qalloc (((w.alloc (.cells (awF ⟨#[49]⟩ ⟨#[49]⟩) 55)).alloc (.cells (awF ⟨#[50]⟩ ⟨#[50]⟩) 55)).alloc (.cells (awF ⟨#[50]⟩ ⟨#[51]⟩) 55)) (.cells (awF ⟨#[51]⟩ ⟨#[50]⟩) 55)
  have hB4 := CBox.new (((w.alloc (.cells (awF ⟨#[49]⟩ ⟨#[49]⟩) 55)).alloc (.cells (awF ⟨#[50]⟩ ⟨#[50]⟩) 55)).alloc (.cells (awF ⟨#[50]⟩ ⟨#[51]⟩) 55)) 55 (awF ⟨#[51]⟩ ⟨#[50]⟩)
  have HR1 : Hid (Reads ((((w.alloc (.cells (awF ⟨#[49]⟩ ⟨#[49]⟩) 55)).alloc (.cells (awF ⟨#[50]⟩ ⟨#[50]⟩) 55)).alloc (.cells (awF ⟨#[50]⟩ ⟨#[51]⟩) 55)).alloc (.cells (awF ⟨#[51]⟩ ⟨#[50]⟩) 55)) [] (filesT awOld) (.slice (some ⟨w.heap.size, 0, none⟩) 3 3)) := files3 (((hB1.below hA2).below hA3).below hA4)
  have HR2 : Hid (Reads ((((w.alloc (.cells (awF ⟨#[49]⟩ ⟨#[49]⟩) 55)).alloc (.cells (awF ⟨#[50]⟩ ⟨#[50]⟩) 55)).alloc (.cells (awF ⟨#[50]⟩ ⟨#[51]⟩) 55)).alloc (.cells (awF ⟨#[51]⟩ ⟨#[50]⟩) 55)) [] (filesT awNew) (.slice (some ⟨w.heap.size + 1, 0, none⟩) 3 3)) := by
    have := files3 ((hB2.below hA3).below hA4)
    rwa [World.size_alloc] at this
  have HR3 : Hid (Reads ((((w.alloc (.cells (awF ⟨#[49]⟩ ⟨#[49]⟩) 55)).alloc (.cells (awF ⟨#[50]⟩ ⟨#[50]⟩) 55)).alloc (.cells (awF ⟨#[50]⟩ ⟨#[51]⟩) 55)).alloc (.cells (awF ⟨#[51]⟩ ⟨#[50]⟩) 55)) [] (filesT awOther) (.slice (some ⟨w.heap.size + 1 + 1, 0, none⟩) 3 3)) := by
    have := files3 (hB3.below hA4)
    rwa [World.size_alloc, World.size_alloc] at this
  have HR4 : Hid (Reads ((((w.alloc (.cells (awF ⟨#[49]⟩ ⟨#[49]⟩) 55)).alloc (.cells (awF ⟨#[50]⟩ ⟨#[50]⟩) 55)).alloc (.cells (awF ⟨#[50]⟩ ⟨#[51]⟩) 55)).alloc (.cells (awF ⟨#[51]⟩ ⟨#[50]⟩) 55)) [] (filesT awThird) (.slice (some ⟨w.heap.size + 1 + 1 + 1, 0, none⟩) 3 3)) := by
    have := files3 hB4
    rwa [World.size_alloc, World.size_alloc, World.size_alloc] at this
  have hb0 := qtrans (qtrans (qtrans hA1 hA2) hA3) hA4
  refine (HSW.out _ _ _ HR1.out HR2.out).mono ?_
  rintro e w1 ⟨rfl, hb1⟩
  generalize (⟨#[97, 108, 108, 32, 103, 114, 111, 117, 112, 32, 97, 110, 110, 32, 59, 32, 112, 114, 101, 102, 105, 120, 32, 100, 111, 99, 47, 32, 103, 114, 111, 117, 112, 32, 98, 111, 98, 32, 59]⟩ : ByteArray) = ow
  generalize (⟨#[79, 87, 78, 69, 82, 83]⟩ : ByteArray) = ow2
  generalize (⟨#[100, 111, 99, 47, 121]⟩ : ByteArray) = ow3
  have HR11 := Lib.hid (HR1.out.below hb1)
  have HR21 := Lib.hid (HR2.out.below hb1)
  have HR31 := Lib.hid (HR3.out.below hb1)
  have HR41 := Lib.hid (HR4.out.below hb1)
  have hb01 := qtrans hb0 hb1
  clear HR1 HR2 HR3 HR4 hA1 hB1 hA2 hB2 hA3 hB3 hA4 hB4 hb0 hb1 HSW
  have hA5 := qalloc w1 (.cells #[.string ⟨#[98, 111, 98]⟩, .int .i64 4, .string vw] 51)
  have hB5 := CBox.new w1 51 #[.string ⟨#[98, 111, 98]⟩, .int .i64 4, .string vw]
  have hA6 := qalloc (w1.alloc (.cells #[.string ⟨#[98, 111, 98]⟩, .int .i64 4, .string vw] 51)) (.cells #[.string ⟨#[98, 111, 98]⟩, .int .i64 4, .string vw] 51)
  have hB6 := CBox.new (w1.alloc (.cells #[.string ⟨#[98, 111, 98]⟩, .int .i64 4, .string vw] 51)) 51 #[.string ⟨#[98, 111, 98]⟩, .int .i64 4, .string vw]
  go_wp2_with (fail)
  rw [World.size_alloc] at hB6
  have hb06 := qtrans hb01 (qtrans hA5 hA6)
  have hB56 := hB5.below hA6
  have hb16 := qtrans hA5 hA6
  have HR12 := Lib.hid (HR11.out.below hb16)
  have HR22 := Lib.hid (HR21.out.below hb16)
  have HR32 := Lib.hid (HR31.out.below hb16)
  have HR42 := Lib.hid (HR41.out.below hb16)
  clear HR11 HR21 HR31 HR41 hA5 hA6 hB5 hb16 hb01
  refine (HMI.out _ _ _ _ (HAP.out _ _ hB6) HR12.out HR22.out).mono ?_
  rintro e w7 ⟨gv, rfl, hgv, hb7⟩
  simp only [] at hgv ⊢
  have hb07 := qtrans hb06 hb7
  have HB7 := Lib.hid (hB56.below hb7)
  have HR13 := Lib.hid (HR12.out.below hb7)
  have HR33 := Lib.hid (HR32.out.below hb7)
  have HR43 := Lib.hid (HR42.out.below hb7)
  clear HR12 HR22 HR32 HR42 hB6 hB56 hb06 hb7 HMI HAP
  have hA8 := qalloc w7 (.cells #[.string ⟨#[97, 110, 110]⟩] 9)
  have hB8 := CBox.new w7 9 #[.string ⟨#[97, 110, 110]⟩]
  have hA9 := qalloc (w7.alloc (.cells #[.string ⟨#[97, 110, 110]⟩] 9)) (.cells #[.slice (some ⟨w7.heap.size, 0, none⟩) 1 1] 30)
  have hB9 := CBox.new (w7.alloc (.cells #[.string ⟨#[97, 110, 110]⟩] 9)) 30 #[.slice (some ⟨w7.heap.size, 0, none⟩) 1 1]
  rw [World.size_alloc] at hB9
  obtain ⟨ga, gc, rfl, -, -⟩ := groups_val hgv
  have HG9 : Hid (Reads ((w7.alloc (.cells #[.string ⟨#[97, 110, 110]⟩] 9)).alloc (.cells #[.slice (some ⟨w7.heap.size, 0, none⟩) 1 1] 30)) [] (groupsT [[⟨#[97, 110, 110]⟩]]) (.slice (some ⟨w7.heap.size + 1, 0, none⟩) 1 1)) := one_group (one_str (hB8.below hA9)) hB9
  have HGV9 : Hid (Reads ((w7.alloc (.cells #[.string ⟨#[97, 110, 110]⟩] 9)).alloc (.cells #[.slice (some ⟨w7.heap.size, 0, none⟩) 1 1] 30)) [] (groupsT [[⟨#[97, 110, 110]⟩]]) (.slice ga 1 gc)) := (hgv.below hA8).below hA9
  have HSG := Lib.hid (rSameGroups_eq (.slice ga 1 gc) (.slice (some ⟨w7.heap.size + 1, 0, none⟩) 1 1) [[⟨#[97, 110, 110]⟩]] ((w7.alloc (.cells #[.string ⟨#[97, 110, 110]⟩] 9)).alloc (.cells #[.slice (some ⟨w7.heap.size, 0, none⟩) 1 1] 30)) HGV9.out HG9.out)
  have hb79 := qtrans hA8 hA9
  have hb09 := qtrans hb07 hb79
  have HB9 := Lib.hid (HB7.out.below hb79)
  have HR14 := Lib.hid (HR13.out.below hb79)
  have HR34 := Lib.hid (HR33.out.below hb79)
  have HR44 := Lib.hid (HR43.out.below hb79)
  have h00 : ((0 : Int) == 0) = true := rfl
  clear hgv hA8 hB8 hA9 hB9 HR13 HR33 HR43 HB7 hb79 hb07
  go_wp2_with (fail)
  refine HSG.out.mono ?_
  rintro e w10 ⟨rfl, n10, rfl⟩
  have HB10 := Lib.hid (HB9.out.below (below_drewN (qrefl _) n10))
  have HR15 := Lib.hid (HR14.out.drewN n10)
  have HR35 := Lib.hid (HR34.out.drewN n10)
  have HR45 := Lib.hid (HR44.out.drewN n10)
  have hb010 := below_drewN hb09 n10
  have x0 := HB10.out.cell (i := 0) rfl
  have x1 := HB10.out.cell (i := 1) rfl
  have x2 := HB10.out.cell (i := 2) rfl
  have xl := HB10.out.lt
  clear HG9 HGV9 HR14 HR34 HR44 HB9 hb09
  generalize ((w7.alloc (.cells #[.string ⟨#[97, 110, 110]⟩] 9)).alloc (.cells #[.slice (some ⟨w7.heap.size, 0, none⟩) 1 1] 30)).drewN n10 = W10 at *
  go_wp2_with (fail)
  refine (HS1.out _ _ _ HR15.out HR35.out).mono ?_
  rintro e w11 ⟨rfl, hb11⟩
  have y0 := (HB10.out.below hb11).cell (i := 0) rfl
  have y1 := (HB10.out.below hb11).cell (i := 1) rfl
  have y2 := (HB10.out.below hb11).cell (i := 2) rfl
  have yl := (HB10.out.below hb11).lt
  have HR16 := Lib.hid (HR15.out.below hb11)
  have HR46 := Lib.hid (HR45.out.below hb11)
  have hb011 := qtrans hb010 hb11
  clear x0 x1 x2 xl HB10 HR15 HR35 HR45 hb010 hb11 HS1
  go_wp2_with (fail)
  refine (HS2.out _ _ _ HR16.out HR46.out).mono ?_
  rintro e w12 ⟨rfl, hb12⟩
  clear y0 y1 y2 yl
  go_wp2
  go_ret
  exact ⟨rfl, qtrans hb011 hb12⟩
end Go.Proofs.YtidkpnabdfiilaaGreatDoor
