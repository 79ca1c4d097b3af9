/- The reference's list and Print. -/
import Derived.Test.YtgcmekpfhagnbaaDoorPrB
import Derived.Test.YtgcmekpfhagnbaaDoorPlC
namespace Go.Proofs.YtgcmekpfhagnbaaDoor
open Go.RowKit

theorem ret_str {a b : ByteArray} (h : a = b) : Ending.returned (.string a) = .returned (.string b) := by rw [h]
/-- What list gives: blanks and elements, and the word ahead of them if there are some. -/
def blanks (l : List ByteArray) : List UInt8 := (l.map fun s => 32 :: s.data.toList).flatten
def listT (txt : ByteArray) (l : List ByteArray) : List UInt8 := if l.length = 0 then [] else 32 :: txt.data.toList ++ blanks l
def bOfL (l : List UInt8) : ByteArray := ⟨l.toArray⟩
theorem bOfL_data (l : List UInt8) : (bOfL l).data.toList = l := by simp [bOfL]
theorem bOfL_size (l : List UInt8) : (bOfL l).size = l.length := by rw [← sz, bOfL_data]
theorem bOfL_app (s : List UInt8) (b : ByteArray) : bOfL s ++ b = bOfL (s ++ b.data.toList) := by
  apply bytes_ext; rw [bOfL_data]; simp [bOfL_data]
theorem blanks_snoc {ss : List ByteArray} {k : Nat} (hk : k < ss.length) : blanks (ss.take (k + 1)) = blanks (ss.take k) ++ (32 :: (ss.getD k ByteArray.empty).data.toList) := by
  rw [List.take_succ_eq_append_getElem hk, List.getD_eq_getElem?_getD, List.getElem?_eq_getElem hk]
  unfold blanks
  rw [List.map_append, List.flatten_append]
  congr 1
  simp
theorem blanks_len (m : Nat) : ∀ {l : List ByteArray}, (∀ s ∈ l, s.size ≤ m) → (blanks l).length ≤ l.length * (m + 1)
  | [], _ => by simp [blanks]
  | s :: l, h => by
    have ih := blanks_len m (l := l) (fun q hq => h q (List.mem_cons_of_mem _ hq))
    have hs := h s (List.mem_cons_self ..)
    have e : blanks (s :: l) = 32 :: s.data.toList ++ blanks l := by simp [blanks]
    rw [e, List.length_append, List.length_cons, List.length_cons, sz, Nat.add_mul, Nat.one_mul]
    omega
/-- A string that has come so far: as the walk has it, and as a list of bytes. -/
theorem rlistP_any (txt : ByteArray) (v : Value) (ss : List ByteArray) (w : World) (hv : Strs w v ss) (hs : ∀ s ∈ ss, s.size ≤ 40000) (hn : ss.length ≤ 40000) (ht : txt.size ≤ 100) :
    Calls Tryd.prog 45 #[.string txt, v] w fun e w' => e = .returned (.string (bOfL (listT txt ss))) ∧ w = w' := by
  obtain ⟨a, cap, rfl, h1, h2, h3⟩ := hv.shape
  have HV := Lib.hid h3
  have HS := Lib.hid hs
  clear h3 hv hs
  unfold maxLen at h2
  go_enter Tryd.func45, Tryd.ntmps45
  go_wp2
  go_loop [5, 6] (fun ov i => ∃ k : Nat, k ≤ ss.length ∧ i = .int .i64 k ∧ ov = .string (bOfL (blanks (ss.take k)))) (fun _ i => ss.length - (intOf i).toNat)
  case atStart => exact ⟨0, Nat.zero_le _, rfl, rfl⟩
  case round =>
    obtain ⟨k, hk, rfl, rfl⟩ := hrel
    have hbl : (blanks (ss.take k)).length ≤ 1700000000 := by
      have := blanks_len 40000 (l := ss.take k) (fun s h => HS.out s (List.mem_of_mem_take h))
      rw [List.length_take] at this
      have h3 : min k ss.length * (40000 + 1) ≤ 40000 * (40000 + 1) := Nat.mul_le_mul_right _ (by omega)
      omega
    by_cases hlt : k < ss.length
    · obtain ⟨b, o, rfl, hb, hc⟩ := HV.out k hlt
      have hcell := hc k hlt
      clear hc
      have HX : Hid (bOfL (blanks (ss.take k)) ++ ⟨#[32]⟩ ++ ss.getD k ByteArray.empty = bOfL (blanks (ss.take (k + 1)))) := by
        show _ = _
        rw [bOfL_app, bOfL_app, blanks_snoc hlt]
        simp
      have hsz : (ss.getD k ByteArray.empty).size ≤ 40000 := by
        rw [List.getD_eq_getElem?_getD, List.getElem?_eq_getElem hlt]; exact HS.out _ (List.getElem_mem hlt)
      have hbz : (bOfL (blanks (ss.take k))).size ≤ 1700000000 := by rw [bOfL_size]; exact hbl
      obtain ⟨nx, hnx⟩ : ∃ nx, nx = bOfL (blanks (ss.take (k + 1))) := ⟨_, rfl⟩
      rw [← hnx] at HX
      have HNX := Lib.hid hnx
      clear hnx
      generalize ss.getD k ByteArray.empty = t at *
      generalize bOfL (blanks (ss.take k)) = cu at *
      go_wp2
      go_round
      case rel => exact ⟨k + 1, by omega, by go_num, by rw [← HNX.out, HX.out]⟩
      case measure => simp [intOf]; omega
    · obtain rfl : k = ss.length := by omega
      rw [List.take_length]
      have HX : Hid (listT txt ss = if ss.length = 0 then [] else 32 :: txt.data.toList ++ blanks ss) := rfl
      have hb0 : ss.length = 0 → Hid (bOfL (blanks ss) = bOfL []) := fun h => by rw [List.eq_nil_of_length_eq_zero h]; rfl
      have HY : Hid ((⟨#[32]⟩ : ByteArray) ++ txt ++ bOfL (blanks ss) = bOfL (32 :: txt.data.toList ++ blanks ss)) := by
        show _ = _
        apply bytes_ext; rw [bOfL_data]; simp [bOfL_data]
      rw [List.take_length] at hbl
      have hbz : (bOfL (blanks ss)).size ≤ 1700000000 := by rw [bOfL_size]; exact hbl
      obtain ⟨cu, hcu⟩ : ∃ cu, cu = bOfL (blanks ss) := ⟨_, rfl⟩
      rw [← hcu] at HY hbz ⊢
      have HCU := Lib.hid hcu
      clear hcu
      by_cases h0 : ss.length = 0
      · have HF : Hid (listT txt ss = []) := by show _ = _; rw [HX.out, if_pos h0]
        have HB := hb0 h0
        have hd1 : decide (0 < ss.length) = false := decide_eq_false (by omega)
        have hd2 : ¬ 0 < ss.length := by omega
        clear hb0
        go_wp2
        go_ret
        exact ⟨ret_str (by rw [HF.out, HCU.out, HB.out]), rfl⟩
      · have HF : Hid (listT txt ss = 32 :: txt.data.toList ++ blanks ss) := by show _ = _; rw [HX.out, if_neg h0]
        have hd1 : decide (0 < ss.length) = true := decide_eq_true (by omega)
        have hd2 : 0 < ss.length := by omega
        clear hb0 h0
        go_wp2
        go_ret
        exact ⟨ret_str (by rw [HF.out, ← HY.out]), rfl⟩
/-- A rule's line, as the reference puts it together. -/
def kindL (k : Int) : ByteArray := if k = 2 then ⟨#[116, 101, 115, 116, 32]⟩ else ⟨#[108, 105, 98, 32]⟩
def rlineOf (r : Rule) : List UInt8 := (kindL r.kind).data.toList ++ r.name.data.toList ++ listT bb_deps r.deps ++ listT bb_visible r.vis ++ [32, 59, 10]
theorem joinTailB (x : ByteArray) : ∀ l : List ByteArray, Lib.join ((x :: l).map (·.data.toList)) [32] = x.data.toList ++ blanks l
  | [] => by simp [Lib.join_one, blanks]
  | y :: l => by
    have e : Lib.join ((x :: y :: l).map (·.data.toList)) [32] = x.data.toList ++ ([32] ++ Lib.join ((y :: l).map (·.data.toList)) [32]) := by simp [Lib.join, List.intercalate]
    rw [e, joinTailB y l]
    simp [blanks]
theorem blanks_app (a b : List ByteArray) : blanks (a ++ b) = blanks a ++ blanks b := by simp [blanks]
theorem blanks_sec (txt : ByteArray) (l : List ByteArray) : blanks (secOf txt l) = listT txt l := by
  unfold secOf listT
  split
  · rfl
  · simp [blanks]
theorem rlineOf_eq (r : Rule) : rlineOf r = lineOf r := by
  have e : wordsR r = kindB r.kind :: (r.name :: (secOf bb_deps r.deps ++ secOf bb_visible r.vis ++ [b_semi])) := by simp [wordsR]
  unfold lineOf rlineOf
  rw [e, joinTailB]
  have e2 : blanks (r.name :: (secOf bb_deps r.deps ++ secOf bb_visible r.vis ++ [b_semi])) = 32 :: r.name.data.toList ++ listT bb_deps r.deps ++ listT bb_visible r.vis ++ [32, 59] := by
    rw [show r.name :: (secOf bb_deps r.deps ++ secOf bb_visible r.vis ++ [b_semi]) = [r.name] ++ secOf bb_deps r.deps ++ secOf bb_visible r.vis ++ [b_semi] by simp]
    rw [blanks_app, blanks_app, blanks_app, blanks_sec, blanks_sec]
    simp [blanks, b_semi]
  rw [e2]
  have e3 : (kindL r.kind).data.toList = (kindB r.kind).data.toList ++ [32] := by unfold kindL kindB; split <;> rfl
  rw [e3]
  simp
theorem listT_len (txt : ByteArray) {l : List ByteArray} (ht : txt.size ≤ 100) (h : ∀ s ∈ l, s.size ≤ 40000) (hl : l.length ≤ 20) : (listT txt l).length ≤ 900000 := by
  have := blanks_len 40000 h
  have h3 : l.length * (40000 + 1) ≤ 20 * (40000 + 1) := Nat.mul_le_mul_right _ hl
  unfold listT
  split
  · simp
  · rw [List.length_append, List.length_cons, sz]; omega
set_option maxRecDepth 100000 in
set_option maxHeartbeats 4000000 in
theorem rPrint_any (v : Value) (rs : List Rule) (w : World) (hr : IsRules w v rs) (hs : SmallRs rs) (hn : rs.length ≤ 40000) :
    Calls Tryd.prog 21 #[v] w (PrintPost (printR rs) w) := by
  obtain ⟨a, cap, rfl, h1, h2⟩ := hr.val
  have HR := Lib.hid hr
  clear hr
  by_cases hce : checkErr rs = 0
  · obtain ⟨hlen, hall⟩ := checkErr_ok hce
    have HF : Hid (printR rs = (bOfL (textOf rs), 0)) := by show _ = _; unfold printR; rw [if_pos hce]; rfl
    have HALL : Hid (∀ r ∈ rs, SmallR r ∧ r.deps.length ≤ 20 ∧ r.vis.length ≤ 20) := fun r hr => ⟨hs.all r hr, ruleErr_len (hall r hr)⟩
    have hce' : (checkErr rs != 0) = false := by simp [hce]
    clear hce hall
    go_enter Tryd.func21, Tryd.ntmps21
    go_wp2_with (go_at_call 23; refine (rCheck_any _ rs _ HR.out hs hn).mono ?_; rintro e w1 ⟨rfl, hb1⟩)
    have HR1 := Lib.hid (HR.out.below hb1)
    clear HR
    go_loopw [5, 6] (fun ov iv wr => ∃ k : Nat, k ≤ rs.length ∧ iv = .int .i64 k ∧ ov = .string (bOfL (textOf (rs.take k))) ∧ Hid (∃ n, wr = w1.drewN n)) (fun _ iv _ => rs.length - (intOf iv).toNat)
    case atStart => exact ⟨0, Nat.zero_le _, rfl, rfl, 0, rfl⟩
    case round =>
      obtain ⟨k, hk, rfl, rfl, HW⟩ := hrel
      have htl : (textOf (rs.take k)).length ≤ 180004600 := by
        have := textOf_len (rs := rs.take k) (fun q hq => HALL.out q (List.mem_of_mem_take hq))
        rw [List.length_take] at this
        have h3 : min k rs.length * 1800046 ≤ 100 * 1800046 := Nat.mul_le_mul_right _ (by omega)
        omega
      by_cases hlt : k < rs.length
      · obtain ⟨r, hrk⟩ : ∃ r, rs[k]? = some r := ⟨_, List.getElem?_eq_getElem hlt⟩
        have HTX := Lib.hid (textOf_snoc hrk)
        have hrw : IsRules wr (.slice a rs.length cap) rs := by obtain ⟨n, rfl⟩ := HW.out; exact HR1.out.drewN n
        obtain ⟨b, o, ad, cd, av, cv, rfl, hbb, c0, c1, c2, c3, sd, sv⟩ := hrw.elem hrk
        obtain ⟨hsm, hdl, hvl⟩ := HALL.out r (by obtain ⟨hk', e⟩ := List.getElem?_eq_some_iff.1 hrk; rw [← e]; exact List.getElem_mem hk')
        have hn1 := hsm.name
        have hl1 := listT_len bb_deps (by decide) hsm.deps hdl
        have hl2 := listT_len bb_visible (by decide) hsm.vis hvl
        have HL1 := Lib.hid (fun (W : World) (h : Strs W (.slice ad r.deps.length cd) r.deps) => rlistP_any bb_deps _ r.deps W h hsm.deps (by omega) (by decide))
        have HL2 := Lib.hid (fun (W : World) (h : Strs W (.slice av r.vis.length cv) r.vis) => rlistP_any bb_visible _ r.vis W h hsm.vis (by omega) (by decide))
        have HX : Hid (((((bOfL (textOf (rs.take k)) ++ kindL r.kind) ++ r.name) ++ bOfL (listT bb_deps r.deps)) ++ bOfL (listT bb_visible r.vis)) ++ ⟨#[32, 59, 10]⟩ = bOfL (textOf (rs.take (k + 1)))) := by
          show _ = _
          rw [bOfL_app, bOfL_app, bOfL_app, bOfL_app, bOfL_app, bOfL_data, bOfL_data, HTX.out, ← rlineOf_eq]
          unfold rlineOf
          simp
        have hcz : (bOfL (textOf (rs.take k))).size ≤ 180004600 := by rw [bOfL_size]; exact htl
        have hz1 : (bOfL (listT bb_deps r.deps)).size ≤ 900000 := by rw [bOfL_size]; exact hl1
        have hz2 : (bOfL (listT bb_visible r.vis)).size ≤ 900000 := by rw [bOfL_size]; exact hl2
        have hzk : (kindL r.kind).size ≤ 5 := by unfold kindL; split <;> decide
        obtain ⟨nx, hnx⟩ : ∃ nx, nx = bOfL (textOf (rs.take (k + 1))) := ⟨_, rfl⟩
        rw [← hnx] at HX
        have HNX := Lib.hid hnx
        clear hnx hrk hl1 hl2 htl hrw
        generalize bOfL (textOf (rs.take k)) = cu at *
        generalize bOfL (listT bb_deps r.deps) = s1 at *
        generalize bOfL (listT bb_visible r.vis) = s2 at *
        have hkk : (r.kind == 2) = true ∧ kindL r.kind = ⟨#[116, 101, 115, 116, 32]⟩ ∨ (r.kind == 2) = false ∧ kindL r.kind = ⟨#[108, 105, 98, 32]⟩ := by
          unfold kindL
          by_cases e : r.kind = 2
          · left; simp [e]
          · right; simp [e]
        generalize kindL r.kind = kk at *
        rcases hkk with ⟨q1, rfl⟩ | ⟨q1, rfl⟩ <;>
        · go_upto_region 11 with (fail)
          refine wp_region_noPanic (region_ord (fun W => W.cell? ⟨b, o + k * 4 + 1, none⟩ = some (.string r.name) ∧ W.cell? ⟨b, o + k * 4 + 2, none⟩ = some (.slice ad r.deps.length cd) ∧ W.cell? ⟨b, o + k * 4 + 3, none⟩ = some (.slice av r.vis.length cv))
            [(true, 0), (true, 1), (true, 2), (true, 3), (true, 4), (true, 5), (true, 6), (true, 7), (true, 8), (true, 9), (true, 10), (true, 11), (true, 12), (true, 13), (true, 16), (true, 17), (true, 18), (true, 19), (true, 20), (false, 14), (true, 15), (false, 21), (true, 22), (true, 23), (true, 24)] mixedK (by kernel_rfl) (fun _ _ _ _ _ h => h) ⟨c1, c2, c3⟩ (fun hHeld => ?_))
          have SD1 := Lib.hid (sd.out.below (below_drew (qrefl wr)))
          have SD2 := Lib.hid (sv.out.below (below_drew (qrefl wr)))
          have hki0 : (0 : Int) ≤ (k : Int) := by omega
          have hki1 : (k : Int) < (rs.length : Int) := by omega
          iterate 19 (refine ord_take (v := ?_) rfl (by rfl) ?_ ?_; rotate_left; (focus (intro wq hSw; (try dsimp only at hSw); go_simp; (try rw [if_neg (by first | omega | (simp; omega))]); (try with_reducible rfl))); (try simp only [List.getElem_toArray, List.getElem_cons_succ, List.getElem_cons_zero, Act.put, List.setIfInBounds_toArray, List.set_cons_zero, List.set_cons_succ]))
          ((refine ord_do rfl (by rfl) (fun K hK => ?_); go_simp); refine (HL1.out _ SD1.out).mono ?_; rintro e w' ⟨rfl, rfl⟩; (try go_simp); refine hK.out _ _ hHeld (fun _ => ?_); clear hK K; (try simp only [List.getElem_toArray, List.getElem_cons_succ, List.getElem_cons_zero, Act.put, List.setIfInBounds_toArray, List.set_cons_zero, List.set_cons_succ]))
          iterate 1 (refine ord_take (v := ?_) rfl (by rfl) ?_ ?_; rotate_left; (focus (intro wq hSw; (try dsimp only at hSw); go_simp; (try rw [if_neg (by first | omega | (simp; omega))]); (try with_reducible rfl))); (try simp only [List.getElem_toArray, List.getElem_cons_succ, List.getElem_cons_zero, Act.put, List.setIfInBounds_toArray, List.set_cons_zero, List.set_cons_succ]))
          ((refine ord_do rfl (by rfl) (fun K hK => ?_); go_simp); refine (HL2.out _ SD2.out).mono ?_; rintro e w' ⟨rfl, rfl⟩; (try go_simp); refine hK.out _ _ hHeld (fun _ => ?_); clear hK K; (try simp only [List.getElem_toArray, List.getElem_cons_succ, List.getElem_cons_zero, Act.put, List.setIfInBounds_toArray, List.set_cons_zero, List.set_cons_succ]))
          iterate 3 (refine ord_take (v := ?_) rfl (by rfl) ?_ ?_; rotate_left; (focus (intro wq hSw; (try dsimp only at hSw); go_simp; (try rw [if_neg (by first | omega | (simp; omega))]); (try with_reducible rfl))); (try simp only [List.getElem_toArray, List.getElem_cons_succ, List.getElem_cons_zero, Act.put, List.setIfInBounds_toArray, List.set_cons_zero, List.set_cons_succ]))
          refine ord_end (NoPanic.normal ?_)
          clear hHeld HL1 HL2 SD1 SD2
          have HW2 : Hid (∃ n, wr.drew = w1.drewN n) := by obtain ⟨n, rfl⟩ := HW.out; exact ⟨n + 1, rfl⟩
          generalize wr.drew = WD at *
          go_wp2
          go_roundw
          case rel => exact ⟨k + 1, by omega, by go_num, by rw [← HNX.out, HX.out], HW2⟩
          case measure => simp [intOf]; omega
      · obtain rfl : k = rs.length := by omega
        have HE : Hid (bOfL (textOf (rs.take rs.length)) = bOfL (textOf rs)) := by show _ = _; rw [List.take_length]
        have hBw : Below w.heap.size w wr := by obtain ⟨n, rfl⟩ := HW.out; exact below_drewN hb1 n
        generalize bOfL (textOf (rs.take rs.length)) = cu at *
        go_wp2
        go_ret2
        rw [HF.out, ← HE.out]
        exact ⟨rfl, hBw⟩
  · have HF : Hid (printR rs = (⟨#[]⟩, checkErr rs)) := by show _ = _; unfold printR; rw [if_neg hce]
    have hce' : (checkErr rs != 0) = true := by simp [hce]
    clear hce
    go_enter Tryd.func21, Tryd.ntmps21
    go_wp2_with (go_at_call 23; refine (rCheck_any _ rs _ HR.out hs hn).mono ?_; rintro e w1 ⟨rfl, hb1⟩)
    go_ret2
    rw [HF.out]
    exact ⟨rfl, hb1⟩
end Go.Proofs.YtgcmekpfhagnbaaDoor
