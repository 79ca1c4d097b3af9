/- owners.Print. -/
import Derived.Test.YtgknclplheldmaaDoorPtO
namespace Go.Proofs.YtgknclplheldmaaDoor
open Go.RowKit

def PrintPost (x : ByteArray × Int) (w : World) (e : Ending) (w' : World) : Prop := e = .returned (.tuple #[.string x.1, .int .i64 x.2]) ∧ Below w.heap.size w w'
theorem write_any (B b : Nat) (l : List UInt8) (s : ByteArray) (w : World) (h : IsB B b l w) (hl : l.length + s.size ≤ 140737488355328) (hBw : B ≤ w.heap.size) :
    Calls Tryd.prog 33 #[.pointer (some ⟨b, 0, none⟩), .string s] w fun e w' => e = .returned (.tuple #[.int .i64 s.size, .nilIface]) ∧ IsB B b (l ++ s.data.toList) w' ∧ Below B w w' ∧ Lib.OthersKept 5 (some b) w w' := by
  refine (Tryd.Builder_WriteString_k B b _ s w h (by simpa [Lib.byteCells] using hl) hBw).mono ?_
  rintro e w' ⟨rfl, h1, h2, h3⟩
  refine ⟨rfl, ?_, h2, h3⟩
  unfold IsB
  rw [Lib.byteCells_append, ← strCells_bytes]
  exact .inr h1
theorem isB_below {B b : Nat} {l : List UInt8} {w w' : World} (h : IsB B b l w) (m : Below w.heap.size w w') : IsB B b l w' :=
  builder_grown h (row := none) ⟨m.os, m.tape, m.output, m.size, fun k hk _ => m.block k hk⟩ (fun r e => by cases e)
theorem box_kept {b : Nat} {w w' : World} (hot : Lib.OthersKept 5 (some b) w w') {B : Nat} {t : TypeId} {xs : Array Value} (hx : CBox w B t xs) (hb : B ≠ b) (ht : t ≠ 5) : CBox w' B t xs :=
  hot _ _ hx (fun e => hb (by injection e)) (fun c fz e => ht (by cases e; rfl))
theorem empty_beq (p : ByteArray) : (p.toList == ([] : List UInt8)) = decide (p.data.toList = []) := by
  rw [tl, Bool.eq_iff_iff, beq_iff_eq, decide_eq_true_eq]
set_option maxRecDepth 100000 in
set_option maxHeartbeats 1000000 in
theorem Print_any (v : Value) (rs : List ORule) (w : World) (hr : Reads w [] (rulesT rs) v) (hs : SmallR rs) :
    Calls Tryd.prog 17 #[v] w (PrintPost (printO rs) w) := by
  obtain ⟨a, cap, rfl, h1, h2⟩ := rules_val hr
  have HR := Lib.hid hr
  have HCK := Lib.hid (check_any _ rs w hr hs)
  have hlen0 := hs.len
  clear hr
  by_cases hce : ocheckErr rs = 0
  · obtain ⟨hlen, hall⟩ := ocheck_ok hce
    have HF : Hid (printO rs = (bOf (textO rs), 0)) := by show _ = _; unfold printO; rw [if_pos hce]
    have HALL := Lib.hid hall
    rw [hce] at HCK
    clear hce hall
    go_enter Tryd.func17, Tryd.ntmps17
    go_wp2_with (fail)
    refine HCK.out.mono ?_
    rintro e w1 ⟨rfl, hb1⟩
    have HR1 := Lib.hid (HR.out.below hb1)
    have hB0 := Lib.hid (builder_new w1)
    have hBe := qalloc w1 (.cells #[.pointer none, .slice none 0 0] 73)
    have hBz : w1.heap.size + 1 ≤ (w1.alloc (.cells #[.pointer none, .slice none 0 0] 73)).heap.size := by simp
    clear HR HCK
    go_wp2
    generalize w1.alloc (.cells #[.pointer none, .slice none 0 0] 73) = W0 at *
    go_loopw [17] (fun iv wr => ∃ k : Nat, k ≤ rs.length ∧ iv = .int .i64 k ∧ Hid (IsB w1.heap.size w1.heap.size (textO (rs.take k)) wr) ∧ Below w1.heap.size w1 wr ∧ w1.heap.size + 1 ≤ wr.heap.size) (fun iv _ => rs.length - (intOf iv).toNat)
    case atStart => exact ⟨0, Nat.zero_le _, rfl, hB0, hBe, hBz⟩
    case round =>
      obtain ⟨k, hk, rfl, HB, hbl, hz⟩ := hrel
      clear hB0 hBe hBz
      clear W0
      by_cases hlt : k < rs.length
      · obtain ⟨r, hrk⟩ : ∃ r, rs[k]? = some r := ⟨_, List.getElem?_eq_getElem hlt⟩
        have HTX := Lib.hid (textO_snoc hrk)
        have hgood := HALL.out r (List.mem_of_getElem? hrk)
        obtain ⟨b, o, ag, cg, rfl, hbb0, hcp0, hcg0, -, -, HG⟩ := rules_elem HR1.out hrk
        have hbb : b < wr.heap.size := Nat.lt_of_lt_of_le hbb0 hbl.size
        have hcp := (hbl.cell (p := ⟨b, o + k * 2, none⟩) hbb0).trans hcp0
        have hcg := (hbl.cell (p := ⟨b, o + k * 2 + 1, none⟩) hbb0).trans hcg0
        clear hcp0 hcg0
        have htl : (textO (rs.take k)).length ≤ 415800 := by
          have := textO_len (rs := rs.take k) (fun q hq => HALL.out q (List.mem_of_mem_take hq))
          rw [List.length_take] at this
          have h3 : min k rs.length * 4158 ≤ 100 * 4158 := Nat.mul_le_mul_right _ (by omega)
          omega
        have hpl : r.pre.size ≤ 100 := by have := pre_len hgood.pre; rwa [sz] at this
        have hgl := hgood.len.2
        have HEACH := Lib.hid hgood.each
        have hA := qalloc wr (.cells #[.string r.pre, .slice ag r.groups.length cg] 59)
        have HCB := Lib.hid (CBox.new wr 59 #[.string r.pre, .slice ag r.groups.length cg])
        have HBA := Lib.hid (isB_below HB.out hA)
        have hza : w1.heap.size + 1 ≤ (wr.alloc (.cells #[.string r.pre, .slice ag r.groups.length cg] 59)).heap.size := by simp; omega
        have hbla : Below w1.heap.size w1 (wr.alloc (.cells #[.string r.pre, .slice ag r.groups.length cg] 59)) := qtrans hbl hA
        clear hrk
        go_upto_if 23 with (fail)
        go_cut [17] from 18 to 42 (fun s17 wx => s17 = .int .i64 k ∧ Hid (IsB w1.heap.size w1.heap.size (textO (rs.take k) ++ headO r.pre) wx) ∧ CBox wx wr.heap.size 59 #[.string r.pre, .slice ag r.groups.length cg] ∧ Below w1.heap.size w1 wx ∧ w1.heap.size + 1 ≤ wx.heap.size)
        case first =>
          by_cases hpe : r.pre.data.toList = []
          · have he1 : r.pre.toList = [] := by rw [tl]; exact hpe
            have he2 : r.pre.toList.isEmpty = true := by rw [he1]; rfl
            have he3 : (r.pre.toList == ([] : List UInt8)) = true := by rw [he1]; rfl
            have HHD : Hid (headO r.pre = [97, 108, 108]) := by show _ = _; unfold headO; rw [if_pos hpe]; rfl
            clear hpe he3 he1
            rw [he2]
            go_wp2_with (fail)
            refine (write_any _ _ _ ⟨#[97, 108, 108]⟩ _ HBA.out (by show _ + 3 ≤ _; omega) (by omega)).mono ?_
            rintro e w2 ⟨rfl, h2, hb2, hot⟩
            have H2 := Lib.hid h2
            clear h2
            go_wp2
            go_meet
            case rel => exact ⟨rfl, by rw [HHD.out]; exact H2.out, box_kept hot HCB.out (by omega) (by decide), hbla.trans hb2, Nat.le_trans hza hb2.size⟩
          · have he2 : r.pre.toList.isEmpty = false := by rw [tl]; cases h : r.pre.data.toList with | nil => exact absurd h hpe | cons _ _ => rfl
            have he3 : ¬ r.pre.toList = [] := by rw [tl]; exact hpe
            have he4 : (!r.pre.toList.isEmpty) = true := by rw [he2]; rfl
            have HHD : Hid (headO r.pre = (⟨#[112, 114, 101, 102, 105, 120, 32]⟩ ++ r.pre : ByteArray).data.toList) := by
              show _ = _
              unfold headO
              rw [if_neg hpe, ByteArray.data_append, Array.toList_append]; rfl
            have hwz : (⟨#[112, 114, 101, 102, 105, 120, 32]⟩ ++ r.pre : ByteArray).size ≤ 107 := by rw [ByteArray.size_append]; show 7 + r.pre.size ≤ _; omega
            clear hpe he3 he4
            rw [he2]
            go_wp2_with (fail)
            generalize (⟨#[112, 114, 101, 102, 105, 120, 32]⟩ ++ r.pre : ByteArray) = ss at *
            refine (write_any _ _ _ ss _ HBA.out (by omega) (by omega)).mono ?_
            rintro e w2 ⟨rfl, h2, hb2, hot⟩
            have H2 := Lib.hid h2
            clear h2
            go_wp2
            go_meet
            case rel => exact ⟨rfl, by rw [HHD.out]; exact H2.out, box_kept hot HCB.out (by omega) (by decide), hbla.trans hb2, Nat.le_trans hza hb2.size⟩
        case rest =>
          obtain ⟨rfl, HBC, hcb, hblc, hzc⟩ := hcut
          have k1 := hcb.cell (i := 1) rfl
          have kl := hcb.lt
          clear HBA HCB hza hbla hA HB hcp hcg hbb
          have hhl := headO_len hgood.pre
          have HPRE : Hid (textO (rs.take (k + 1)) = ((textO (rs.take k) ++ headO r.pre) ++ (r.groups.map groupL).flatten) ++ [32, 59, 10]) := by
            show _ = _; rw [HTX.out, lineO]; simp
          have hTl : (textO (rs.take k) ++ headO r.pre).length ≤ 415907 := by rw [List.length_append]; omega
          generalize textO (rs.take k) ++ headO r.pre = T at *
          generalize r.groups = gs at *
          clear HTX hgood hhl htl
          generalize wr = wo at *
          go_wp2
          go_loopw [32] (fun iv wr => ∃ q : Nat, q ≤ gs.length ∧ iv = .int .i64 q ∧ Hid (IsB w1.heap.size w1.heap.size (T ++ ((gs.take q).map groupL).flatten) wr) ∧ Below w1.heap.size w1 wr ∧ w1.heap.size + 1 ≤ wr.heap.size) (fun iv _ => gs.length - (intOf iv).toNat)
          case atStart => exact ⟨0, Nat.zero_le _, rfl, by simpa using HBC, hblc, hzc⟩
          case round =>
            obtain ⟨q, hq, rfl, HBQ, hblq, hzq⟩ := hrel
            clear HBC hblc hzc k1 kl hcb
            have hfl : (T ++ ((gs.take q).map groupL).flatten).length ≤ 419955 := by
              rw [List.length_append]
              have := groups_len (gs := gs.take q) (by rw [List.length_take]; omega) (fun g hg => (HEACH.out g (List.mem_of_mem_take hg)).2)
              omega
            by_cases hql : q < gs.length
            · obtain ⟨g, hg⟩ : ∃ g, gs[q]? = some g := ⟨_, List.getElem?_eq_getElem hql⟩
              have heg := HEACH.out g (List.mem_of_getElem? hg)
              obtain ⟨bg, og, ga, gc, rfl, hbg, hcgq, -, -, HS⟩ := groups_elem (HG.out.below hblq) hg
              have HFL := Lib.hid (groupsL_snoc hg)
              have hgl2 := groupL_len heg.2.1 heg.2.2
              have hjl : Hid ([32, 103, 114, 111, 117, 112, 32] ++ Lib.join (g.map (·.data.toList)) [32] = groupL g) := groupL_join heg.1
              have hjs : (bOf (Lib.join (g.map (·.data.toList)) [32])).size ≤ 506 := by
                rw [← sz, data_bOf]
                have := congrArg List.length hjl.out
                rw [List.length_append] at this
                omega
              have hg0 := heg.1
              have hg20 := heg.2.1
              have HJ : Hid (∀ W, Strs W (.slice ga g.length gc) g → Calls Tryd.prog 20 #[.slice ga g.length gc, .string ⟨#[32]⟩] W fun e w' => e = .returned (.string (bOf (Lib.join (g.map (·.data.toList)) [32]))) ∧ Below W.heap.size W w') := fun W h => join_any _ g _ W h hg0 rfl (by omega) (by omega)
              have HSS : Hid ((⟨#[32, 103, 114, 111, 117, 112, 32]⟩ ++ bOf (Lib.join (g.map (·.data.toList)) [32]) : ByteArray).data.toList = groupL g) := by
                show _ = _
                rw [ByteArray.data_append, Array.toList_append]; exact hjl.out
              have hss : (⟨#[32, 103, 114, 111, 117, 112, 32]⟩ ++ bOf (Lib.join (g.map (·.data.toList)) [32]) : ByteArray).size ≤ 506 := by rw [← sz, HSS.out]; exact hgl2
              generalize bOf (Lib.join (g.map (·.data.toList)) [32]) = js at *
              clear hjl heg hg
              go_wp2_with (fail)
              refine (HJ.out _ HS.out).mono ?_
              rintro e w3 ⟨rfl, hb3⟩
              have HB3 := Lib.hid (isB_below HBQ.out hb3)
              have hbl3 : Below w1.heap.size w1 w3 := hblq.trans (hb3.mono hblq.size)
              have hz3 : w1.heap.size + 1 ≤ w3.heap.size := by have := hb3.size; omega
              clear HJ HBQ HS hcgq hb3
              go_wp2_with (fail)
              generalize (⟨#[32, 103, 114, 111, 117, 112, 32]⟩ ++ js : ByteArray) = ss at *
              refine (write_any _ _ _ ss _ HB3.out (by omega) (by omega)).mono ?_
              rintro e w4 ⟨rfl, h4, hb4, -⟩
              rw [HSS.out, List.append_assoc, ← HFL.out] at h4
              have H4 := Lib.hid h4
              clear h4 HB3
              go_wp2
              go_roundw
              case rel => exact ⟨q + 1, by omega, by go_num, H4, hbl3.trans hb4, Nat.le_trans hz3 hb4.size⟩
              case measure => simp [intOf]; omega
            · have hqe : gs.take q = gs := List.take_of_length_le (by omega)
              rw [hqe] at HBQ hfl
              clear hqe
              go_wp2_with (fail)
              refine (write_any _ _ _ ⟨#[32, 59, 10]⟩ _ HBQ.out (by show _ + 3 ≤ _; omega) (by omega)).mono ?_
              rintro e w4 ⟨rfl, h4, hb4, -⟩
              have H4 : Hid (IsB w1.heap.size w1.heap.size (textO (rs.take (k + 1))) w4) := by rw [HPRE.out]; exact h4
              clear h4 HBQ
              go_wp2
              go_roundw
              case rel => exact ⟨k + 1, by omega, by go_num, H4, hblq.trans hb4, Nat.le_trans hzq hb4.size⟩
              case measure => simp [intOf]; omega
      · obtain rfl : k = rs.length := by omega
        have HBE : Hid (IsB w1.heap.size w1.heap.size (textO rs) wr) := by
          have := HB.out
          rw [List.take_length] at this
          exact this
        clear HB
        go_wp2_with (go_at_call 34; refine (Tryd.Builder_String_any_k _ _ _ _ HBE.out (by omega)).mono ?_; rintro e w2 ⟨rfl, h2, hb2, -⟩)
        go_ret2
        rw [HF.out]
        exact ⟨rfl, (hb1.trans (hbl.mono hb1.size)).trans (hb2.mono hb1.size)⟩
  · have HF : Hid (printO rs = (⟨#[]⟩, ocheckErr rs)) := by show _ = _; unfold printO; rw [if_neg hce]
    generalize ocheckErr rs = q at *
    have hce' : (q != 0) = true := by simp [hce]
    clear hce
    go_enter Tryd.func17, Tryd.ntmps17
    go_wp2_with (fail)
    refine HCK.out.mono ?_
    rintro e w1 ⟨rfl, hb1⟩
    go_wp2
    go_ret2
    rw [HF.out]
    exact ⟨rfl, hb1⟩
end Go.Proofs.YtgknclplheldmaaDoor
