/- The reference's check and CheckExpr of chapter 21. -/
import Derived.Test.YtlcpdhionefmbaaGreatDoorSyE
import Derived.Test.YtlcpdhionefmbaaGreatDoorSyG
namespace Go.Proofs.YtlcpdhionefmbaaGreatDoor
open Go.RowKit

def errX (x : Ex) : Int := firstE ((preN x 1).map (·.2))
def errXL : List Ex → Int
  | [] => 0
  | x :: r => if errX x = 0 then errXL r else errX x
theorem errX_eq (x : Ex) : errX x = if nodeErr x = 0 then errXL x.subs else nodeErr x := by
  have key : ∀ (x : Ex) (d e : Nat), (preN x d).map (·.2) = (preN x e).map (·.2) := by
    intro x
    refine Ex.ind (P := fun x => ∀ (d e : Nat), (preN x d).map (·.2) = (preN x e).map (·.2)) (fun x ih d e => ?_) x
    rw [preN_eq, preN_eq, List.map_cons, List.map_cons]
    congr 1
    have : ∀ l : List Ex, (∀ y ∈ l, ∀ d e, (preN y d).map (·.2) = (preN y e).map (·.2)) → ∀ d e, (preL l d).map (·.2) = (preL l e).map (·.2) := by
      intro l
      induction l with
      | nil => intro _ _ _; rfl
      | cons y r ihr =>
        intro h d e
        rw [preL, preL, List.map_append, List.map_append, h y (List.mem_cons_self ..) d e, ihr (fun z hz => h z (List.mem_cons_of_mem _ hz)) d e]
    exact this _ ih _ _
  have hl : ∀ l : List Ex, firstE ((preL l 2).map (·.2)) = errXL l := by
    intro l
    induction l with
    | nil => rfl
    | cons y r ihr => rw [preL, List.map_append, firstE_app, errXL, ihr, key y 2 1]; rfl
  rw [errX, preN_eq, List.map_cons, firstE, hl]
theorem errXL_at {l : List Ex} {k : Nat} {y : Ex} (h : l[k]? = some y) : errXL (l.drop k) = if errX y = 0 then errXL (l.drop (k + 1)) else errX y := by
  obtain ⟨hk, e⟩ := List.getElem?_eq_some_iff.1 h
  rw [List.drop_eq_getElem_cons hk, errXL, e]
theorem exprErr_eq (x : Ex) : exprErr x = if 400 < nodesN x ∨ 40 < depthN x then 4 else errX x := rfl
set_option maxRecDepth 100000 in
set_option maxHeartbeats 6000000 in
theorem rcheck_any (x : Ex) : ∀ (xa : Option Addr) (xc : Nat) (w : World), Reads w [] (subsT x.subs) (.slice xa x.subs.length xc) → SmX 40000 x → nodesN x ≤ 4000000 →
    Calls Tryz.prog 135 #[exV x xa xc] w fun e w' => e = .returned (.int .i64 (errX x)) ∧ Below w.heap.size w w' := by
  refine Ex.ind (P := fun x => ∀ (xa : Option Addr) (xc : Nat) (w : World), Reads w [] (subsT x.subs) (.slice xa x.subs.length xc) → SmX 40000 x → nodesN x ≤ 4000000 →
    Calls Tryz.prog 135 #[exV x xa xc] w fun e w' => e = .returned (.int .i64 (errX x)) ∧ Below w.heap.size w w') (fun x ih => ?_) x
  intro xa xc w hr hsm hN
  have HIH := Lib.hid ih
  have HR := Lib.hid hr
  have HEX := Lib.hid (errX_eq x)
  have HSM := Lib.hid hsm.subs
  have z1 := hsm.name
  have z2 := hsm.more
  have hnl : nodesL x.subs ≤ 4000000 := by rw [nodesN_eq] at hN; omega
  have hll := nodesL_len x.subs
  have HB := Lib.hid (CBox.new w 48 #[.int .i64 x.kind, .string x.name, .string x.more, .int .i64 x.num, .int .i64 x.den, .slice xa x.subs.length xc])
  have hA := qalloc w (.cells #[.int .i64 x.kind, .string x.name, .string x.more, .int .i64 x.num, .int .i64 x.den, .slice xa x.subs.length xc] 48)
  have HN : Hid (nodeErr x = match shapeK x.kind with
    | none => 9
    | some (a, b, c) => if argR x.name x.more x.num x.den x.subs.length a b c then 1 else if namesE x.kind x.name x.more a = 0 then numsE x.kind x.num x.den else namesE x.kind x.name x.more a) := nodeErr_eq x
  have HS := Lib.hid (fun w => rshapeOf_any x.kind w)
  unfold rshapeV at HS
  have HEn := Lib.hid (isE_tl x.name)
  have HEm := Lib.hid (isE_tl x.more)
  unfold exV
  clear ih hr hsm
  cases hk : shapeK x.kind with
  | none =>
    rw [hk] at HS HN
    have HT : Hid (errX x = 9) := by show _ = _; rw [HEX.out, HN.out]; rfl
    go_enter Tryz.func135, Tryz.ntmps135
    go_wp2_with (fail)
    refine (HS.out _).mono ?_
    rintro e w1 ⟨rfl, hb1⟩
    go_wp2
    go_ret
    exact ⟨ret_int (by rw [HT.out]), qtrans (qtrans hA hb1) (qalloc _ _)⟩
  | some p =>
  obtain ⟨a, b, c⟩ := p
  rw [hk] at HS HN
  simp only [] at HS HN
  have HLe := Lib.hid (bne_cast x.subs.length c)
  have HCN := Lib.hid (fun w => named_any x.kind x.num x.den x.name x.more (.slice xa x.subs.length xc) a b c hk (by omega) (by omega) w)
  have HNU := Lib.hid (fun w => ranged_any x.kind x.num x.den x.name x.more (.slice xa x.subs.length xc) w)
  have hab := shape_ab hk
  clear hk
  go_enter Tryz.func135, Tryz.ntmps135
  go_wp2_with (fail)
  refine (HS.out _).mono ?_
  rintro e w1 ⟨rfl, hb1⟩
  have HB1 := Lib.hid (HB.out.below hb1)
  have hbb := qtrans (qtrans hA hb1) (qalloc w1 (.cells #[.bool (decide (1 ≤ a)), .bool (decide (2 ≤ a)), .bool (decide (1 ≤ b)), .bool (decide (2 ≤ b)), .int .i64 (c : Int)] 159))
  have HX := Lib.hid (HB1.out.alloc (.cells #[.bool (decide (1 ≤ a)), .bool (decide (2 ≤ a)), .bool (decide (1 ≤ b)), .bool (decide (2 ≤ b)), .int .i64 (c : Int)] 159))
  have HY := Lib.hid (CBox.new w1 159 #[.bool (decide (1 ≤ a)), .bool (decide (2 ≤ a)), .bool (decide (1 ≤ b)), .bool (decide (2 ≤ b)), .int .i64 (c : Int)])
  go_upto_region 4 with (fail)
  generalize w1.alloc (.cells #[.bool (decide (1 ≤ a)), .bool (decide (2 ≤ a)), .bool (decide (1 ≤ b)), .bool (decide (2 ≤ b)), .int .i64 (c : Int)] 159) = w2 at *
  have y0 := HY.out.cell (i := 0) rfl
  have y1 := HY.out.cell (i := 1) rfl
  have y2 := HY.out.cell (i := 2) rfl
  have y3 := HY.out.cell (i := 3) rfl
  have y4 := HY.out.cell (i := 4) rfl
  have yl := HY.out.lt
  have x0 := HX.out.cell (i := 0) rfl
  have x1 := HX.out.cell (i := 1) rfl
  have x2 := HX.out.cell (i := 2) rfl
  have x3 := HX.out.cell (i := 3) rfl
  have x4 := HX.out.cell (i := 4) rfl
  have x5 := HX.out.cell (i := 5) rfl
  have xl := HX.out.lt
  go_cut [60] from 15 to 60 (fun v wx => v = .bool (argR x.name x.more x.num x.den x.subs.length a b c) ∧ w2 = wx)
  case first =>
    clear HCN HNU HS HB HB1 hbb HN HIH HR HEX HSM
    rcases hab with ⟨rfl, rfl⟩ | ⟨rfl, rfl⟩ | ⟨rfl, rfl⟩ | ⟨rfl, rfl⟩ | ⟨rfl, rfl⟩ | ⟨rfl, rfl⟩
    · skip
      cases hn : (x.name.toList == []) with
      | true =>
        cases hm : (x.more.toList == []) with
        | true =>
          cases hd : (x.den != 0) with
          | true =>
            have HA : Hid (argR x.name x.more x.num x.den x.subs.length 0 1 c = true) := by show _ = _; simp only [argR, HEn.out, HEm.out, HLe.out]; simp [hn, hm, hd]
            go_wp2
            go_meet
            case rel => exact ⟨by rw [HA.out], rfl⟩
          | false =>
            cases hl : ((x.subs.length : Int) != (c : Int)) with
            | true =>
              have HA : Hid (argR x.name x.more x.num x.den x.subs.length 0 1 c = true) := by show _ = _; simp only [argR, HEn.out, HEm.out, HLe.out]; simp [hn, hm, hd, hl]
              go_wp2
              go_meet
              case rel => exact ⟨by rw [HA.out], rfl⟩
            | false =>
              have HA : Hid (argR x.name x.more x.num x.den x.subs.length 0 1 c = false) := by show _ = _; simp only [argR, HEn.out, HEm.out, HLe.out]; simp [hn, hm, hd, hl]
              go_wp2
              go_meet
              case rel => exact ⟨by rw [HA.out], rfl⟩
        | false =>
          have HA : Hid (argR x.name x.more x.num x.den x.subs.length 0 1 c = true) := by show _ = _; simp only [argR, HEn.out, HEm.out, HLe.out]; simp [hn, hm]
          go_wp2
          go_meet
          case rel => exact ⟨by rw [HA.out], rfl⟩
      | false =>
        have HA : Hid (argR x.name x.more x.num x.den x.subs.length 0 1 c = true) := by show _ = _; simp only [argR, HEn.out, HEm.out, HLe.out]; simp [hn]
        go_wp2
        go_meet
        case rel => exact ⟨by rw [HA.out], rfl⟩
    · skip
      cases hm : (x.more.toList == []) with
      | true =>
        cases hi : (x.num != 0) with
        | true =>
          have HA : Hid (argR x.name x.more x.num x.den x.subs.length 1 0 c = true) := by show _ = _; simp only [argR, HEn.out, HEm.out, HLe.out]; simp [hm, hi]
          go_wp2
          go_meet
          case rel => exact ⟨by rw [HA.out], rfl⟩
        | false =>
          cases hd : (x.den != 0) with
          | true =>
            have HA : Hid (argR x.name x.more x.num x.den x.subs.length 1 0 c = true) := by show _ = _; simp only [argR, HEn.out, HEm.out, HLe.out]; simp [hm, hi, hd]
            go_wp2
            go_meet
            case rel => exact ⟨by rw [HA.out], rfl⟩
          | false =>
            cases hl : ((x.subs.length : Int) != (c : Int)) with
            | true =>
              have HA : Hid (argR x.name x.more x.num x.den x.subs.length 1 0 c = true) := by show _ = _; simp only [argR, HEn.out, HEm.out, HLe.out]; simp [hm, hi, hd, hl]
              go_wp2
              go_meet
              case rel => exact ⟨by rw [HA.out], rfl⟩
            | false =>
              have HA : Hid (argR x.name x.more x.num x.den x.subs.length 1 0 c = false) := by show _ = _; simp only [argR, HEn.out, HEm.out, HLe.out]; simp [hm, hi, hd, hl]
              go_wp2
              go_meet
              case rel => exact ⟨by rw [HA.out], rfl⟩
      | false =>
        have HA : Hid (argR x.name x.more x.num x.den x.subs.length 1 0 c = true) := by show _ = _; simp only [argR, HEn.out, HEm.out, HLe.out]; simp [hm]
        go_wp2
        go_meet
        case rel => exact ⟨by rw [HA.out], rfl⟩
    · skip
      cases hi : (x.num != 0) with
      | true =>
        have HA : Hid (argR x.name x.more x.num x.den x.subs.length 2 0 c = true) := by show _ = _; simp only [argR, HEn.out, HEm.out, HLe.out]; simp [hi]
        go_wp2
        go_meet
        case rel => exact ⟨by rw [HA.out], rfl⟩
      | false =>
        cases hd : (x.den != 0) with
        | true =>
          have HA : Hid (argR x.name x.more x.num x.den x.subs.length 2 0 c = true) := by show _ = _; simp only [argR, HEn.out, HEm.out, HLe.out]; simp [hi, hd]
          go_wp2
          go_meet
          case rel => exact ⟨by rw [HA.out], rfl⟩
        | false =>
          cases hl : ((x.subs.length : Int) != (c : Int)) with
          | true =>
            have HA : Hid (argR x.name x.more x.num x.den x.subs.length 2 0 c = true) := by show _ = _; simp only [argR, HEn.out, HEm.out, HLe.out]; simp [hi, hd, hl]
            go_wp2
            go_meet
            case rel => exact ⟨by rw [HA.out], rfl⟩
          | false =>
            have HA : Hid (argR x.name x.more x.num x.den x.subs.length 2 0 c = false) := by show _ = _; simp only [argR, HEn.out, HEm.out, HLe.out]; simp [hi, hd, hl]
            go_wp2
            go_meet
            case rel => exact ⟨by rw [HA.out], rfl⟩
    · skip
      cases hm : (x.more.toList == []) with
      | true =>
        cases hd : (x.den != 0) with
        | true =>
          have HA : Hid (argR x.name x.more x.num x.den x.subs.length 1 1 c = true) := by show _ = _; simp only [argR, HEn.out, HEm.out, HLe.out]; simp [hm, hd]
          go_wp2
          go_meet
          case rel => exact ⟨by rw [HA.out], rfl⟩
        | false =>
          cases hl : ((x.subs.length : Int) != (c : Int)) with
          | true =>
            have HA : Hid (argR x.name x.more x.num x.den x.subs.length 1 1 c = true) := by show _ = _; simp only [argR, HEn.out, HEm.out, HLe.out]; simp [hm, hd, hl]
            go_wp2
            go_meet
            case rel => exact ⟨by rw [HA.out], rfl⟩
          | false =>
            have HA : Hid (argR x.name x.more x.num x.den x.subs.length 1 1 c = false) := by show _ = _; simp only [argR, HEn.out, HEm.out, HLe.out]; simp [hm, hd, hl]
            go_wp2
            go_meet
            case rel => exact ⟨by rw [HA.out], rfl⟩
      | false =>
        have HA : Hid (argR x.name x.more x.num x.den x.subs.length 1 1 c = true) := by show _ = _; simp only [argR, HEn.out, HEm.out, HLe.out]; simp [hm]
        go_wp2
        go_meet
        case rel => exact ⟨by rw [HA.out], rfl⟩
    · skip
      cases hn : (x.name.toList == []) with
      | true =>
        cases hm : (x.more.toList == []) with
        | true =>
          cases hi : (x.num != 0) with
          | true =>
            have HA : Hid (argR x.name x.more x.num x.den x.subs.length 0 0 c = true) := by show _ = _; simp only [argR, HEn.out, HEm.out, HLe.out]; simp [hn, hm, hi]
            go_wp2
            go_meet
            case rel => exact ⟨by rw [HA.out], rfl⟩
          | false =>
            cases hd : (x.den != 0) with
            | true =>
              have HA : Hid (argR x.name x.more x.num x.den x.subs.length 0 0 c = true) := by show _ = _; simp only [argR, HEn.out, HEm.out, HLe.out]; simp [hn, hm, hi, hd]
              go_wp2
              go_meet
              case rel => exact ⟨by rw [HA.out], rfl⟩
            | false =>
              cases hl : ((x.subs.length : Int) != (c : Int)) with
              | true =>
                have HA : Hid (argR x.name x.more x.num x.den x.subs.length 0 0 c = true) := by show _ = _; simp only [argR, HEn.out, HEm.out, HLe.out]; simp [hn, hm, hi, hd, hl]
                go_wp2
                go_meet
                case rel => exact ⟨by rw [HA.out], rfl⟩
              | false =>
                have HA : Hid (argR x.name x.more x.num x.den x.subs.length 0 0 c = false) := by show _ = _; simp only [argR, HEn.out, HEm.out, HLe.out]; simp [hn, hm, hi, hd, hl]
                go_wp2
                go_meet
                case rel => exact ⟨by rw [HA.out], rfl⟩
        | false =>
          have HA : Hid (argR x.name x.more x.num x.den x.subs.length 0 0 c = true) := by show _ = _; simp only [argR, HEn.out, HEm.out, HLe.out]; simp [hn, hm]
          go_wp2
          go_meet
          case rel => exact ⟨by rw [HA.out], rfl⟩
      | false =>
        have HA : Hid (argR x.name x.more x.num x.den x.subs.length 0 0 c = true) := by show _ = _; simp only [argR, HEn.out, HEm.out, HLe.out]; simp [hn]
        go_wp2
        go_meet
        case rel => exact ⟨by rw [HA.out], rfl⟩
    · skip
      cases hn : (x.name.toList == []) with
      | true =>
        cases hm : (x.more.toList == []) with
        | true =>
          cases hl : ((x.subs.length : Int) != (c : Int)) with
          | true =>
            have HA : Hid (argR x.name x.more x.num x.den x.subs.length 0 2 c = true) := by show _ = _; simp only [argR, HEn.out, HEm.out, HLe.out]; simp [hn, hm, hl]
            go_wp2
            go_meet
            case rel => exact ⟨by rw [HA.out], rfl⟩
          | false =>
            have HA : Hid (argR x.name x.more x.num x.den x.subs.length 0 2 c = false) := by show _ = _; simp only [argR, HEn.out, HEm.out, HLe.out]; simp [hn, hm, hl]
            go_wp2
            go_meet
            case rel => exact ⟨by rw [HA.out], rfl⟩
        | false =>
          have HA : Hid (argR x.name x.more x.num x.den x.subs.length 0 2 c = true) := by show _ = _; simp only [argR, HEn.out, HEm.out, HLe.out]; simp [hn, hm]
          go_wp2
          go_meet
          case rel => exact ⟨by rw [HA.out], rfl⟩
      | false =>
        have HA : Hid (argR x.name x.more x.num x.den x.subs.length 0 2 c = true) := by show _ = _; simp only [argR, HEn.out, HEm.out, HLe.out]; simp [hn]
        go_wp2
        go_meet
        case rel => exact ⟨by rw [HA.out], rfl⟩
  case rest =>
  obtain ⟨rfl, rfl⟩ := hcut
  cases ha : argR x.name x.more x.num x.den x.subs.length a b c with
  | true =>
    rw [ha] at HN
    have HT : Hid (errX x = 1) := by show _ = _; rw [HEX.out, HN.out]; rfl
    go_wp2
    go_ret
    exact ⟨ret_int (by rw [HT.out]), hbb⟩
  | false =>
    rw [ha] at HN
    have HQ : Hid (namesE x.kind x.name x.more a = if namesR x.kind x.name x.more a then (if x.kind = 13 ∧ x.name.data.toList = x.more.data.toList then 7 else 0) else 6) := rfl
    have HU : Hid (numsE x.kind x.num x.den = if numsR x.kind x.num x.den then 0 else 2) := rfl
    go_wp2_with (fail)
    refine (HCN.out _).mono ?_
    rintro e w3 ⟨rfl, hb3⟩
    have HX3 := Lib.hid (HX.out.below hb3)
    have hb13 := qtrans hbb hb3
    clear HX HY y0 y1 y2 y3 y4 yl x0 x1 x2 x3 x4 x5 xl hbb HCN
    cases hnm : namesR x.kind x.name x.more a with
    | false =>
      have HT : Hid (errX x = 6) := by show _ = _; rw [HEX.out, HN.out, HQ.out, hnm]; rfl
      go_wp2
      go_ret
      exact ⟨ret_int (by rw [HT.out]), hb13⟩
    | true =>
      have z0 := HX3.out.cell (i := 0) rfl
      have z1' := HX3.out.cell (i := 1) rfl
      have z2' := HX3.out.cell (i := 2) rfl
      have z3 := HX3.out.cell (i := 3) rfl
      have z4 := HX3.out.cell (i := 4) rfl
      have z5 := HX3.out.cell (i := 5) rfl
      have zl := HX3.out.lt
      go_upto_region 8 with (fail)
      go_cut [74] from 65 to 74 (fun v wx => v = .bool ((x.kind == 13) && (x.name.toList == x.more.toList)) ∧ w3 = wx)
      case first =>
        cases h13 : (x.kind == 13) with
        | false =>
          go_wp2
          go_meet
          case rel => exact ⟨by simp [h13], rfl⟩
        | true =>
          go_wp2
          go_meet
          case rel => exact ⟨by rw [h13, Bool.true_and], rfl⟩
      case rest =>
      obtain ⟨rfl, rfl⟩ := hcut
      have H13 : Hid (((x.kind == 13) && (x.name.toList == x.more.toList)) = true ↔ (x.kind = 13 ∧ x.name.data.toList = x.more.data.toList)) := by
        show _ ↔ _
        rw [tl, tl]; simp
      cases h13 : ((x.kind == 13) && (x.name.toList == x.more.toList)) with
      | true =>
        have HT : Hid (errX x = 7) := by show _ = _; rw [HEX.out, HN.out, HQ.out, hnm, if_pos rfl, if_pos (H13.out.1 h13)]; rfl
        go_wp2
        go_ret
        exact ⟨ret_int (by rw [HT.out]), hb13⟩
      | false =>
        have HQ0 : Hid (nodeErr x = numsE x.kind x.num x.den) := by
          show _ = _
          have hA13 : ¬ (x.kind = 13 ∧ x.name.data.toList = x.more.data.toList) := fun h => by have := H13.out.2 h; rw [h13] at this; cases this
          rw [HN.out, HQ.out, hnm, if_pos rfl, if_neg hA13]; rfl
        clear HN HQ H13
        go_wp2_with (fail)
        refine (HNU.out _).mono ?_
        rintro e w4 ⟨rfl, hb4⟩
        have HX4 := Lib.hid (HX3.out.below hb4)
        have hb14 := qtrans hb13 hb4
        clear HX3 z0 z1' z2' z3 z4 z5 zl hb13 HNU
        cases hnu : numsR x.kind x.num x.den with
        | false =>
          have HT : Hid (errX x = 2) := by show _ = _; rw [HEX.out, HQ0.out, HU.out, hnu]; rfl
          go_wp2
          go_ret
          exact ⟨ret_int (by rw [HT.out]), hb14⟩
        | true =>
          have HT : Hid (errX x = errXL x.subs) := by show _ = _; rw [HEX.out, HQ0.out, HU.out, hnu]; rfl
          clear HEX HQ0 HU
          generalize w4 = wo at *
          go_wp2
          go_loopw [5, 6] (fun iv _ wr => ∃ q : Nat, q ≤ x.subs.length ∧ iv = .int .i64 q ∧ Hid (errXL x.subs = errXL (x.subs.drop q)) ∧ CBox wr w.heap.size 48 #[.int .i64 x.kind, .string x.name, .string x.more, .int .i64 x.num, .int .i64 x.den, .slice xa x.subs.length xc] ∧ Below w.heap.size w wr) (fun iv _ _ => x.subs.length - (intOf iv).toNat)
          case atStart => exact ⟨0, Nat.zero_le _, rfl, rfl, HX4.out, hb14⟩
          case round =>
            obtain ⟨q, hq, rfl, HF, hbx, hb⟩ := hrel
            have b5 := hbx.cell (i := 5) rfl
            have bl := hbx.lt
            by_cases hlt : q < x.subs.length
            · obtain ⟨y, hy⟩ : ∃ y, x.subs[q]? = some y := ⟨_, List.getElem?_eq_getElem hlt⟩
              obtain ⟨yb, yo, sa, sc, rfl, hbb, y0, y1, y2, y3, y4, y5, _, _, HRY⟩ := subs_elem (HR.out.below hb) hy
              have hyn := nodesL_mem (List.mem_of_getElem? hy)
              have HTK := Lib.hid (HF.out.trans (errXL_at hy))
              have HC := Lib.hid (HIH.out y (List.mem_of_getElem? hy) sa sc wr HRY.out (HSM.out y (List.mem_of_getElem? hy)) (by omega))
              unfold exV at HC
              generalize errX y = r at *
              clear hy HRY HF
              go_wp2_with (fail)
              refine HC.out.mono ?_
              rintro e w5 ⟨rfl, hb5⟩
              have hbx1 := hbx.below hb5
              clear hbx b5 y0 y1 y2 y3 y4 y5
              by_cases hr : r = 0
              · have hrb : (r != 0) = false := by simp [hr]
                have HF2 : Hid (errXL x.subs = errXL (x.subs.drop (q + 1))) := by show _ = _; rw [HTK.out, if_pos hr]
                clear hr
                go_wp2
                go_roundw
                case rel => exact ⟨q + 1, by omega, by go_num, HF2, hbx1, qtrans hb hb5⟩
                case measure => simp [intOf]; omega
              · have hrb : (r != 0) = true := by simp [hr]
                have HF2 : Hid (errXL x.subs = r) := by show _ = _; rw [HTK.out, if_neg hr]
                go_wp2
                go_ret
                exact ⟨ret_int (by rw [HT.out, HF2.out]), qtrans hb hb5⟩
            · have HF2 : Hid (errXL x.subs = 0) := by show _ = _; rw [HF.out, List.drop_eq_nil_of_le (by omega)]; rfl
              go_wp2
              go_ret
              exact ⟨ret_int (by rw [HT.out, HF2.out]), hb⟩
set_option maxHeartbeats 1000000 in
theorem rCheckExpr_any (x : Ex) (a : Option Addr) (c : Nat) (w : World) (hr : Reads w [] (subsT x.subs) (.slice a x.subs.length c)) (hsm : SmX 40000 x) (hN : nodesN x ≤ 4000000) :
    Calls Tryz.prog 117 #[exV x a c] w fun e w' => e = .returned (.int .i64 (exprErr x)) ∧ Below w.heap.size w w' := by
  have HE := Lib.hid (exprErr_eq x)
  have HR := Lib.hid hr
  have H1 := Lib.hid (fun w h => rNodes_any x a c w h hN)
  have H2 := Lib.hid (fun w h => rDepth_any x a c w h hN)
  have H3 := Lib.hid (fun w h => rcheck_any x a c w h hsm hN)
  unfold exV at *
  have HB := Lib.hid (CBox.new w 48 #[.int .i64 x.kind, .string x.name, .string x.more, .int .i64 x.num, .int .i64 x.den, .slice a x.subs.length c])
  have hA := qalloc w (.cells #[.int .i64 x.kind, .string x.name, .string x.more, .int .i64 x.num, .int .i64 x.den, .slice a x.subs.length c] 48)
  clear hr hsm
  generalize errX x = r at *
  by_cases h1 : 400 < nodesN x
  · have HT : Hid (exprErr x = 4) := by show _ = _; rw [HE.out, if_pos (.inl h1)]
    have hd : decide ((400 : Int) < (nodesN x : Int)) = true := decide_eq_true (by omega)
    generalize nodesN x = N at *
    go_enter Tryz.func117, Tryz.ntmps117
    go_wp2_with (fail)
    refine (H1.out _ (HR.out.below hA)).mono ?_
    rintro e w1 ⟨rfl, hb1⟩
    go_wp2
    go_ret
    exact ⟨ret_int (by rw [HT.out]), qtrans hA hb1⟩
  have hd : decide ((400 : Int) < (nodesN x : Int)) = false := decide_eq_false (by omega)
  by_cases h2 : 40 < depthN x
  · have HT : Hid (exprErr x = 4) := by show _ = _; rw [HE.out, if_pos (.inr h2)]
    have hd2 : decide ((40 : Int) < (depthN x : Int)) = true := decide_eq_true (by omega)
    generalize nodesN x = N at *
    generalize depthN x = D at *
    go_enter Tryz.func117, Tryz.ntmps117
    go_wp2_with (fail)
    refine (H1.out _ (HR.out.below hA)).mono ?_
    rintro e w1 ⟨rfl, hb1⟩
    have HB1 := Lib.hid (HB.out.below hb1)
    have hbb1 := qtrans hA hb1
    have c0 := HB1.out.cell (i := 0) rfl
    have c1 := HB1.out.cell (i := 1) rfl
    have c2 := HB1.out.cell (i := 2) rfl
    have c3 := HB1.out.cell (i := 3) rfl
    have c4 := HB1.out.cell (i := 4) rfl
    have c5 := HB1.out.cell (i := 5) rfl
    have cl := HB1.out.lt
    clear HB hb1 hA
    go_wp2_with (fail)
    refine (H2.out _ (HR.out.below hbb1)).mono ?_
    rintro e w2 ⟨rfl, hb2⟩
    have HB2 := Lib.hid (HB1.out.below hb2)
    have hbb2 := qtrans hbb1 hb2
    have d0 := HB2.out.cell (i := 0) rfl
    have d1 := HB2.out.cell (i := 1) rfl
    have d2 := HB2.out.cell (i := 2) rfl
    have d3 := HB2.out.cell (i := 3) rfl
    have d4 := HB2.out.cell (i := 4) rfl
    have d5 := HB2.out.cell (i := 5) rfl
    have dl := HB2.out.lt
    clear HB1 c0 c1 c2 c3 c4 c5 cl hb2 hbb1
    go_wp2
    go_ret
    exact ⟨ret_int (by rw [HT.out]), hbb2⟩
  · have HT : Hid (exprErr x = r) := by show _ = _; rw [HE.out, if_neg (by omega)]
    have hd2 : decide ((40 : Int) < (depthN x : Int)) = false := decide_eq_false (by omega)
    generalize nodesN x = N at *
    generalize depthN x = D at *
    go_enter Tryz.func117, Tryz.ntmps117
    go_wp2_with (fail)
    refine (H1.out _ (HR.out.below hA)).mono ?_
    rintro e w1 ⟨rfl, hb1⟩
    have HB1 := Lib.hid (HB.out.below hb1)
    have hbb1 := qtrans hA hb1
    have c0 := HB1.out.cell (i := 0) rfl
    have c1 := HB1.out.cell (i := 1) rfl
    have c2 := HB1.out.cell (i := 2) rfl
    have c3 := HB1.out.cell (i := 3) rfl
    have c4 := HB1.out.cell (i := 4) rfl
    have c5 := HB1.out.cell (i := 5) rfl
    have cl := HB1.out.lt
    clear HB hb1 hA
    go_wp2_with (fail)
    refine (H2.out _ (HR.out.below hbb1)).mono ?_
    rintro e w2 ⟨rfl, hb2⟩
    have HB2 := Lib.hid (HB1.out.below hb2)
    have hbb2 := qtrans hbb1 hb2
    have d0 := HB2.out.cell (i := 0) rfl
    have d1 := HB2.out.cell (i := 1) rfl
    have d2 := HB2.out.cell (i := 2) rfl
    have d3 := HB2.out.cell (i := 3) rfl
    have d4 := HB2.out.cell (i := 4) rfl
    have d5 := HB2.out.cell (i := 5) rfl
    have dl := HB2.out.lt
    clear HB1 c0 c1 c2 c3 c4 c5 cl hb2 hbb1
    go_wp2_with (fail)
    refine (H3.out _ (HR.out.below hbb2)).mono ?_
    rintro e w3 ⟨rfl, hb3⟩
    go_wp2
    go_ret
    exact ⟨ret_int (by rw [HT.out]), qtrans hbb2 hb3⟩
end Go.Proofs.YtlcpdhionefmbaaGreatDoor
