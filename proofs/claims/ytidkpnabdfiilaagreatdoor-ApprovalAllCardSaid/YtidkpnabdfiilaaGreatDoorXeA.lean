/- The reference's encoding of changes, exactly; what a person sees, by the reference. -/
import Derived.Test.YtidkpnabdfiilaaGreatDoorAvQ
namespace Go.Proofs.YtidkpnabdfiilaaGreatDoor
open Go.RowKit Go.Shelf
attribute [local go_sem] Oper.semAt_some

theorem intB_one {n : Nat} (h : n < 128) : intB n = [UInt8.ofNat n] := by unfold intB; rw [digs, if_pos h]
theorem intB_two {n : Nat} (h0 : 128 ≤ n) (h1 : n < 16384) : intB n = [UInt8.ofNat (n % 128 + 128), UInt8.ofNat (n / 128)] := by
  unfold intB; rw [digs, if_neg (by omega), digs, if_pos (by omega)]
theorem put_two (n : Int) (h0 : 128 ≤ n) (h1 : n < 16384) : u8of (IntKind.u8.wrap (IntKind.i64.wrap (128 + n.tmod 128))) ++ u8of (IntKind.i64.wrap (n.tdiv 128)) = bOf (intB n.toNat) := by
  obtain ⟨m, rfl⟩ : ∃ m : Nat, n = (m : Int) := ⟨n.toNat, by omega⟩
  have e1 : IntKind.u8.wrap (IntKind.i64.wrap (128 + (m : Int).tmod 128)) = ((m % 128 + 128 : Nat) : Int) := by
    have : (m : Int).tmod 128 = (m : Int) % 128 := Int.tmod_eq_emod_of_nonneg (by omega)
    simp [IntKind.wrap, IntKind.signed, IntKind.bits, this]; omega
  have e2 : IntKind.i64.wrap ((m : Int).tdiv 128) = ((m / 128 : Nat) : Int) := by
    have : (m : Int).tdiv 128 = (m : Int) / 128 := Int.tdiv_eq_ediv_of_nonneg (by omega)
    simp [IntKind.wrap, IntKind.signed, IntKind.bits, this]; omega
  rw [e1, e2]
  refine bytes_eq ?_
  rw [show ((m : Int)).toNat = m from rfl, intB_two (by omega) (by omega)]
  simp [u8of, bOf]
  refine ⟨?_, ?_⟩
  · rw [show ((m : Int) % 128 + 128).toNat = m % 128 + 128 by omega]; simp
  · rw [show ((m : Int) / 128).toNat = m / 128 by omega]
set_option maxHeartbeats 1000000 in
theorem r1put_twoX (n : Int) (h0 : 128 ≤ n) (h1 : n < 16384) (w : World) : Calls Tryz.prog 166 #[.int .i64 n] w fun e w' => e = .returned (.string (bOf (intB n.toNat))) ∧ Below w.heap.size w w' := by
  have HTW := Lib.hid (put_two n h0 h1)
  have hd : decide (n < 128) = false := decide_eq_false (by omega)
  go_enter Tryz.func166, Tryz.ntmps166
  go_wp2
  refine wp_region_noPanic (region_plan (fun _ => True) (.take 0 (.take 1 (.take 2 (.take 3 (.take 6 (.take 7 (.two 4 8 (.two 5 8 (.one 8 (.one 9 (.one 10 .done))) (.one 5 (.one 9 (.one 10 .done)))) (.one 4 (.one 5 (.one 9 (.one 10 .done))))))))))) mixedK (by kernel_rfl) (fun _ _ _ _ _ h => h) trivial ?_)
  iterate 6 (refine plan_take (v := ?_) rfl (by rfl) ?_ ?_; rotate_left; (focus (intro wq hSw; (try dsimp only at hSw); go_simp; (try rw [if_neg (by first | omega | (simp; omega))]); (try with_reducible rfl))); (try simp only [List.getElem_toArray, List.getElem_cons_succ, List.getElem_cons_zero, Act.put, List.setIfInBounds_toArray, List.set_cons_zero, List.set_cons_succ]))
  have hc : 0 ≤ IntKind.u8.wrap (IntKind.i64.wrap (128 + n.tmod 128)) ∧ IntKind.u8.wrap (IntKind.i64.wrap (128 + n.tmod 128)) < 256 := by
    simp [IntKind.wrap, IntKind.signed, IntKind.bits]; omega
  have hq : 0 ≤ IntKind.i64.wrap (n.tdiv 128) ∧ IntKind.i64.wrap (n.tdiv 128) < 128 := by
    have : n.tdiv 128 = n / 128 := Int.tdiv_eq_ediv_of_nonneg (by omega)
    simp [IntKind.wrap, IntKind.signed, IntKind.bits, this]; omega
  have HXS := HTW
  clear HTW
  generalize IntKind.u8.wrap (IntKind.i64.wrap (128 + n.tmod 128)) = c at *
  generalize IntKind.i64.wrap (n.tdiv 128) = q at *
  have HP := Lib.hid (r1put_one q hq.1 hq.2)
  have HC := Lib.hid (fun (w : World) (b : Nat) => run_convC w b c hc.1 hc.2)
  have hsz : ¬ (9223372036854775807 < (u8of c).size + (u8of q).size) := by rw [u8of_size, u8of_size]; omega
  generalize u8of q = U at *
  generalize u8of c = V at *
  clear hc hq
  refine plan_two ?_ ?_
  · (refine plan_one rfl (by rfl) (fun K hK => ?_); go_simp)
    have hW : Below w.heap.size w (w.alloc (.cells #[.int .u8 c] 5)).drew := (qalloc _ _).drew
    have hc1 : (w.alloc (.cells #[.int .u8 c] 5)).drew.cell? ⟨w.heap.size, 0, none⟩ = some (.int .u8 c) := by simp
    generalize (w.alloc (.cells #[.int .u8 c] 5)).drew = W1 at *
    refine hK.out _ _ trivial ?_
    clear hK K
    (try simp only [List.getElem_toArray, List.getElem_cons_succ, List.getElem_cons_zero, Act.put, List.setIfInBounds_toArray, List.set_cons_zero, List.set_cons_succ])
    refine plan_two ?_ ?_
    · have kc := HC.out W1 _ hc1
      (refine plan_one rfl (by rfl) (fun K hK => ?_); go_simp)
      (refine hK.out _ _ trivial ?_; clear hK K; (try simp only [List.getElem_toArray, List.getElem_cons_succ, List.getElem_cons_zero, Act.put, List.setIfInBounds_toArray, List.set_cons_zero, List.set_cons_succ]))
      (refine plan_one rfl (by rfl) (fun K hK => ?_); go_simp)
      refine (HP.out _).mono ?_
      rintro e w2 ⟨rfl, hb⟩
      (try go_simp)
      have hB2 := qtrans hW hb
      clear hc1 kc hW hb
      (refine hK.out _ _ trivial ?_; clear hK K; (try simp only [List.getElem_toArray, List.getElem_cons_succ, List.getElem_cons_zero, Act.put, List.setIfInBounds_toArray, List.set_cons_zero, List.set_cons_succ]))
      (refine plan_one rfl (by rfl) (fun K hK => ?_); go_simp)
      (refine hK.out _ _ trivial ?_; clear hK K; (try simp only [List.getElem_toArray, List.getElem_cons_succ, List.getElem_cons_zero, Act.put, List.setIfInBounds_toArray, List.set_cons_zero, List.set_cons_succ]))
      (refine plan_one rfl (by rfl) (fun K hK => ?_); go_simp)
      (refine hK.out _ _ trivial ?_; clear hK K; (try simp only [List.getElem_toArray, List.getElem_cons_succ, List.getElem_cons_zero, Act.put, List.setIfInBounds_toArray, List.set_cons_zero, List.set_cons_succ]))
      refine plan_done ?_
      refine NoPanic.normal ?_
      go_wp2
      go_ret
      exact ⟨by rw [← HXS.out]; rfl, hB2⟩
    · (refine plan_one rfl (by rfl) (fun K hK => ?_); go_simp)
      refine (HP.out _).mono ?_
      rintro e w2 ⟨rfl, hb⟩
      (try go_simp)
      have hB2 := qtrans hW hb
      have hc2 : w2.cell? ⟨w.heap.size, 0, none⟩ = some (.int .u8 c) := ((bcell hb).1 _ _ (lt_of_cell hc1)).trans hc1
      have kc := HC.out w2 _ hc2
      clear hc1 hW hb
      (refine hK.out _ _ trivial ?_; clear hK K; (try simp only [List.getElem_toArray, List.getElem_cons_succ, List.getElem_cons_zero, Act.put, List.setIfInBounds_toArray, List.set_cons_zero, List.set_cons_succ]))
      (refine plan_one rfl (by rfl) (fun K hK => ?_); go_simp)
      (refine hK.out _ _ trivial ?_; clear hK K; (try simp only [List.getElem_toArray, List.getElem_cons_succ, List.getElem_cons_zero, Act.put, List.setIfInBounds_toArray, List.set_cons_zero, List.set_cons_succ]))
      (refine plan_one rfl (by rfl) (fun K hK => ?_); go_simp)
      (refine hK.out _ _ trivial ?_; clear hK K; (try simp only [List.getElem_toArray, List.getElem_cons_succ, List.getElem_cons_zero, Act.put, List.setIfInBounds_toArray, List.set_cons_zero, List.set_cons_succ]))
      (refine plan_one rfl (by rfl) (fun K hK => ?_); go_simp)
      (refine hK.out _ _ trivial ?_; clear hK K; (try simp only [List.getElem_toArray, List.getElem_cons_succ, List.getElem_cons_zero, Act.put, List.setIfInBounds_toArray, List.set_cons_zero, List.set_cons_succ]))
      refine plan_done ?_
      refine NoPanic.normal ?_
      go_wp2
      go_ret
      exact ⟨by rw [← HXS.out]; rfl, hB2⟩
  · (refine plan_one rfl (by rfl) (fun K hK => ?_); go_simp)
    refine (HP.out _).mono ?_
    rintro e w2 ⟨rfl, hb⟩
    (try go_simp)
    have hB2 : Below w.heap.size w (w2.alloc (.cells #[.int .u8 c] 5)) := qtrans (qtrans (qrefl w).drew hb) (qalloc _ _)
    have hc2 : (w2.alloc (.cells #[.int .u8 c] 5)).cell? ⟨w2.heap.size, 0, none⟩ = some (.int .u8 c) := by simp
    have kc := HC.out (w2.alloc (.cells #[.int .u8 c] 5)) _ hc2
    clear hb hc2
    (refine hK.out _ _ trivial ?_; clear hK K; (try simp only [List.getElem_toArray, List.getElem_cons_succ, List.getElem_cons_zero, Act.put, List.setIfInBounds_toArray, List.set_cons_zero, List.set_cons_succ]))
    (refine plan_one rfl (by rfl) (fun K hK => ?_); go_simp)
    (refine hK.out _ _ trivial ?_; clear hK K; (try simp only [List.getElem_toArray, List.getElem_cons_succ, List.getElem_cons_zero, Act.put, List.setIfInBounds_toArray, List.set_cons_zero, List.set_cons_succ]))
    (refine plan_one rfl (by rfl) (fun K hK => ?_); go_simp)
    (refine hK.out _ _ trivial ?_; clear hK K; (try simp only [List.getElem_toArray, List.getElem_cons_succ, List.getElem_cons_zero, Act.put, List.setIfInBounds_toArray, List.set_cons_zero, List.set_cons_succ]))
    (refine plan_one rfl (by rfl) (fun K hK => ?_); go_simp)
    (refine hK.out _ _ trivial ?_; clear hK K; (try simp only [List.getElem_toArray, List.getElem_cons_succ, List.getElem_cons_zero, Act.put, List.setIfInBounds_toArray, List.set_cons_zero, List.set_cons_succ]))
    (refine plan_one rfl (by rfl) (fun K hK => ?_); go_simp)
    (refine hK.out _ _ trivial ?_; clear hK K; (try simp only [List.getElem_toArray, List.getElem_cons_succ, List.getElem_cons_zero, Act.put, List.setIfInBounds_toArray, List.set_cons_zero, List.set_cons_succ]))
    refine plan_done ?_
    refine NoPanic.normal ?_
    go_wp2
    go_ret
    exact ⟨by rw [← HXS.out]; rfl, hB2⟩
theorem r1put_X (n : Nat) (h1 : n < 16384) (w : World) : Calls Tryz.prog 166 #[.int .i64 n] w fun e w' => e = .returned (.string (bOf (intB n))) ∧ Below w.heap.size w w' := by
  by_cases h : n < 128
  · refine (r1put_one n (by omega) (by omega) w).mono ?_
    rintro e w' ⟨rfl, hb⟩
    exact ⟨by rw [intB_one h]; rfl, hb⟩
  · exact r1put_twoX n (by omega) (by omega) w
theorem r1PutInt_X (n : Nat) (h1 : n < 16384) (w : World) : Calls Tryz.prog 141 #[.int .i64 n] w fun e w' => e = .returned (.tuple #[.string (bOf (intB n)), .int .i64 0]) ∧ Below w.heap.size w w' := by
  have hd : decide ((n : Int) < 0) = false := decide_eq_false (by omega)
  have hd2 : decide (1099511627776 < (n : Int)) = false := decide_eq_false (by omega)
  have HP := Lib.hid (r1put_X n h1)
  go_enter Tryz.func141, Tryz.ntmps141
  go_wp2_with (fail)
  refine (HP.out _).mono ?_
  rintro e w1 ⟨rfl, hb⟩
  go_wp2
  go_ret2
  exact ⟨rfl, hb⟩
theorem encT_bOf (s : ByteArray) : bOf (intB s.size) ++ s = bOf (encT s) := by
  refine bytes_eq ?_
  simp [encT, bOf]
theorem encT_len (s : ByteArray) : (encT s).length ≤ s.size + 9 := by
  have := (digs_len 8 s.size).2
  unfold encT intB; rw [List.length_append, sz]; omega
theorem bOf_size (l : List UInt8) : (bOf l).size = l.length := rfl
theorem r1PutText_X (s : ByteArray) (h1 : s.size < 16384) (w : World) : Calls Tryz.prog 142 #[.string s] w fun e w' => e = .returned (.tuple #[.string (bOf (encT s)), .int .i64 0]) ∧ Below w.heap.size w w' := by
  have hd2 : decide (65536 < (s.size : Int)) = false := decide_eq_false (by omega)
  have HP := Lib.hid (r1put_X s.size (by omega))
  have HE := Lib.hid (encT_bOf s)
  have hx := (digs_len 8 s.size).2
  have hx2 : (bOf (intB s.size)).size ≤ 9 := hx
  generalize bOf (intB s.size) = x at *
  clear hx
  go_enter Tryz.func142, Tryz.ntmps142
  go_wp2_with (fail)
  refine (HP.out _).mono ?_
  rintro e w1 ⟨rfl, hb⟩
  have hsz : ¬ (9223372036854775807 < x.size + s.size) := by omega
  go_wp2
  go_ret2
  exact ⟨by rw [← HE.out]; rfl, hb⟩
theorem xnumber_any (n : Nat) (h1 : n < 16384) (w : World) : Calls Tryz.prog 106 #[.int .i64 n] w fun e w' => e = .returned (.string (bOf (intB n))) ∧ Below w.heap.size w w' := by
  have HP := Lib.hid (r1PutInt_X n h1)
  go_enter Tryz.func106, Tryz.ntmps106
  go_wp2_with (fail)
  refine (HP.out _).mono ?_
  rintro e w1 ⟨rfl, hb⟩
  go_wp2
  go_ret
  exact ⟨rfl, hb⟩
theorem xtext_any (s : ByteArray) (h1 : s.size < 16384) (w : World) : Calls Tryz.prog 107 #[.string s] w fun e w' => e = .returned (.string (bOf (encT s))) ∧ Below w.heap.size w w' := by
  have HP := Lib.hid (r1PutText_X s h1)
  go_enter Tryz.func107, Tryz.ntmps107
  go_wp2_with (fail)
  refine (HP.out _).mono ?_
  rintro e w1 ⟨rfl, hb⟩
  go_wp2
  go_ret
  exact ⟨rfl, hb⟩
theorem xtruth_any (b : Bool) (w : World) : Calls Tryz.prog 108 #[.bool b] w fun e w' => e = .returned (.string (bOf (encF b))) ∧ Below w.heap.size w w' := by
  have HP := Lib.hid (xnumber_any (if b then 1 else 0) (by split <;> omega))
  cases b
  · go_enter Tryz.func108, Tryz.ntmps108
    go_wp2_with (fail)
    refine (HP.out _).mono ?_
    rintro e w1 ⟨rfl, hb⟩
    go_wp2
    go_ret
    exact ⟨rfl, hb⟩
  · go_enter Tryz.func108, Tryz.ntmps108
    go_wp2_with (fail)
    refine (HP.out _).mono ?_
    rintro e w1 ⟨rfl, hb⟩
    go_wp2
    go_ret
    exact ⟨rfl, hb⟩
end Go.Proofs.YtidkpnabdfiilaaGreatDoor
