/- The reference of chapters 1 and 7 at a blob: put, PutInt, PutText, number, text, zero, only, fields, encode, Check. -/
import Derived.Test.YtidkpnabdfiilaaGreatDoorQ10
import Derived.Test.YtidkpnabdfiilaaGreatDoorRPl
import Derived.Lib.SlBytesRow
namespace Go.Proofs.YtidkpnabdfiilaaGreatDoor
open Go.RowKit Go.Shelf
attribute [local go_sem] Oper.semAt_some

def u8of (n : Int) : ByteArray := ⟨#[UInt8.ofNat n.toNat]⟩
theorem u8of_size (n : Int) : (u8of n).size = 1 := rfl
theorem run_conv1 (w : World) (x : Int) (h0 : 0 ≤ x) (h1 : x < 256) :
    (convert 66 9 (.slice (some ⟨w.heap.size, 0, none⟩) 1 1)).run Tryz.prog (w.alloc (.cells #[.int .u8 x] 5)) = .ok (.string (u8of x)) (w.alloc (.cells #[.int .u8 x] 5)) := by
  refine Lib.run_convert_whole _ _ 5 _ Tryz.underlying66 Tryz.underlying5 Tryz.underlying9 w.heap.size 0 (u8of x) (fun i hi => ?_) 1
  have hi' : i < 1 := hi
  obtain rfl : i = 0 := by omega
  rw [show (w.alloc (.cells #[.int .u8 x] 5)).cell? ⟨w.heap.size, 0 + 0, none⟩ = some (.int .u8 x) by simp]
  have : ((u8of x)[0]'hi).toNat = x.toNat := by
    show (UInt8.ofNat x.toNat).toNat = _
    rw [UInt8.toNat_ofNat']; omega
  rw [this]
  congr 2; omega
theorem r1put_one (n : Int) (h0 : 0 ≤ n) (h1 : n < 128) (w : World) : Calls Tryz.prog 166 #[.int .i64 n] w fun e w' => e = .returned (.string (u8of n)) ∧ Below w.heap.size w w' := by
  have hd : decide (n < 128) = true := decide_eq_true h1
  have hc := run_conv1 w n h0 (by omega)
  have hw : IntKind.wrap .u8 n = n := by simp [IntKind.wrap, IntKind.signed, IntKind.bits]; omega
  go_enter Tryz.func166, Tryz.ntmps166
  go_wp2
  go_ret
  exact ⟨rfl, qalloc _ _⟩
theorem run_convC (w : World) (b : Nat) (x : Int) (h0 : 0 ≤ x) (h1 : x < 256) (hc : w.cell? ⟨b, 0, none⟩ = some (.int .u8 x)) :
    (convert 66 9 (.slice (some ⟨b, 0, none⟩) 1 1)).run Tryz.prog w = .ok (.string (u8of x)) w := by
  refine Lib.run_convert_whole _ _ 5 _ Tryz.underlying66 Tryz.underlying5 Tryz.underlying9 b 0 (u8of x) (fun i hi => ?_) 1
  have hi' : i < 1 := hi
  obtain rfl : i = 0 := by omega
  rw [show w.cell? ⟨b, 0 + 0, none⟩ = some (.int .u8 x) from hc]
  have : ((u8of x)[0]'hi).toNat = x.toNat := by
    show (UInt8.ofNat x.toNat).toNat = _
    rw [UInt8.toNat_ofNat']; omega
  rw [this]
  congr 2; omega
set_option maxHeartbeats 1000000 in
theorem r1put_two (n : Int) (h0 : 128 ≤ n) (h1 : n < 16384) (w : World) : Calls Tryz.prog 166 #[.int .i64 n] w fun e w' => (∃ x : ByteArray, e = .returned (.string x) ∧ x.size ≤ 2) ∧ Below w.heap.size w w' := by
  have hd : decide (n < 128) = false := decide_eq_false (by omega)
  go_enter Tryz.func166, Tryz.ntmps166
  go_wp2
  refine wp_region_noPanic (region_plan (fun _ => True) (.take 0 (.take 1 (.take 2 (.take 3 (.take 6 (.take 7 (.two 4 8 (.two 5 8 (.one 8 (.one 9 (.one 10 .done))) (.one 5 (.one 9 (.one 10 .done)))) (.one 4 (.one 5 (.one 9 (.one 10 .done))))))))))) mixedK (by kernel_rfl) (fun _ _ _ _ _ h => h) trivial ?_)
  iterate 6 (refine plan_take (v := ?_) rfl (by rfl) ?_ ?_; rotate_left; (focus (intro wq hSw; (try dsimp only at hSw); go_simp; (try rw [if_neg (by first | omega | (simp; omega))]); (try with_reducible rfl))); (try simp only [List.getElem_toArray, List.getElem_cons_succ, List.getElem_cons_zero, Act.put, List.setIfInBounds_toArray, List.set_cons_zero, List.set_cons_succ]))
  have hc : 0 ≤ IntKind.u8.wrap (IntKind.i64.wrap (128 + n.tmod 128)) ∧ IntKind.u8.wrap (IntKind.i64.wrap (128 + n.tmod 128)) < 256 := by
    simp [IntKind.wrap, IntKind.signed, IntKind.bits]; omega
  have hq : 0 ≤ IntKind.i64.wrap (n.tdiv 128) ∧ IntKind.i64.wrap (n.tdiv 128) < 128 := by
    have : n.tdiv 128 = n / 128 := Int.tdiv_eq_ediv_of_nonneg (by omega)
    simp [IntKind.wrap, IntKind.signed, IntKind.bits, this]; omega
  generalize IntKind.u8.wrap (IntKind.i64.wrap (128 + n.tmod 128)) = c at *
  generalize IntKind.i64.wrap (n.tdiv 128) = q at *
  have HP := Lib.hid (r1put_one q hq.1 hq.2)
  have HC := Lib.hid (fun (w : World) (b : Nat) => run_convC w b c hc.1 hc.2)
  have hsz : ¬ (9223372036854775807 < (u8of c).size + (u8of q).size) := by rw [u8of_size, u8of_size]; omega
  have hxs : (u8of c ++ u8of q).size ≤ 2 := by rw [ByteArray.size_append, u8of_size, u8of_size]; omega
  generalize u8of q = U at *
  generalize u8of c = V at *
  clear hc hq
  refine plan_two ?_ ?_
  · (refine plan_one rfl (by rfl) (fun K hK => ?_); go_simp)
    have hW : Below w.heap.size w (w.alloc (.cells #[.int .u8 c] 5)).drew := (qalloc _ _).drew
    have hc1 : (w.alloc (.cells #[.int .u8 c] 5)).drew.cell? ⟨w.heap.size, 0, none⟩ = some (.int .u8 c) := by simp
    generalize (w.alloc (.cells #[.int .u8 c] 5)).drew = W1 at *
    refine hK.out _ _ trivial ?_
    clear hK K
    (try simp only [List.getElem_toArray, List.getElem_cons_succ, List.getElem_cons_zero, Act.put, List.setIfInBounds_toArray, List.set_cons_zero, List.set_cons_succ])
    refine plan_two ?_ ?_
    · have kc := HC.out W1 _ hc1
      (refine plan_one rfl (by rfl) (fun K hK => ?_); go_simp)
      (refine hK.out _ _ trivial ?_; clear hK K; (try simp only [List.getElem_toArray, List.getElem_cons_succ, List.getElem_cons_zero, Act.put, List.setIfInBounds_toArray, List.set_cons_zero, List.set_cons_succ]))
      (refine plan_one rfl (by rfl) (fun K hK => ?_); go_simp)
      refine (HP.out _).mono ?_
      rintro e w2 ⟨rfl, hb⟩
      (try go_simp)
      have hB2 := qtrans hW hb
      clear hc1 kc hW hb
      (refine hK.out _ _ trivial ?_; clear hK K; (try simp only [List.getElem_toArray, List.getElem_cons_succ, List.getElem_cons_zero, Act.put, List.setIfInBounds_toArray, List.set_cons_zero, List.set_cons_succ]))
      (refine plan_one rfl (by rfl) (fun K hK => ?_); go_simp)
      (refine hK.out _ _ trivial ?_; clear hK K; (try simp only [List.getElem_toArray, List.getElem_cons_succ, List.getElem_cons_zero, Act.put, List.setIfInBounds_toArray, List.set_cons_zero, List.set_cons_succ]))
      (refine plan_one rfl (by rfl) (fun K hK => ?_); go_simp)
      (refine hK.out _ _ trivial ?_; clear hK K; (try simp only [List.getElem_toArray, List.getElem_cons_succ, List.getElem_cons_zero, Act.put, List.setIfInBounds_toArray, List.set_cons_zero, List.set_cons_succ]))
      refine plan_done ?_
      refine NoPanic.normal ?_
      go_wp2
      go_ret
      exact ⟨⟨_, rfl, hxs⟩, hB2⟩
    · (refine plan_one rfl (by rfl) (fun K hK => ?_); go_simp)
      refine (HP.out _).mono ?_
      rintro e w2 ⟨rfl, hb⟩
      (try go_simp)
      have hB2 := qtrans hW hb
      have hc2 : w2.cell? ⟨w.heap.size, 0, none⟩ = some (.int .u8 c) := ((bcell hb).1 _ _ (lt_of_cell hc1)).trans hc1
      have kc := HC.out w2 _ hc2
      clear hc1 hW hb
      (refine hK.out _ _ trivial ?_; clear hK K; (try simp only [List.getElem_toArray, List.getElem_cons_succ, List.getElem_cons_zero, Act.put, List.setIfInBounds_toArray, List.set_cons_zero, List.set_cons_succ]))
      (refine plan_one rfl (by rfl) (fun K hK => ?_); go_simp)
      (refine hK.out _ _ trivial ?_; clear hK K; (try simp only [List.getElem_toArray, List.getElem_cons_succ, List.getElem_cons_zero, Act.put, List.setIfInBounds_toArray, List.set_cons_zero, List.set_cons_succ]))
      (refine plan_one rfl (by rfl) (fun K hK => ?_); go_simp)
      (refine hK.out _ _ trivial ?_; clear hK K; (try simp only [List.getElem_toArray, List.getElem_cons_succ, List.getElem_cons_zero, Act.put, List.setIfInBounds_toArray, List.set_cons_zero, List.set_cons_succ]))
      (refine plan_one rfl (by rfl) (fun K hK => ?_); go_simp)
      (refine hK.out _ _ trivial ?_; clear hK K; (try simp only [List.getElem_toArray, List.getElem_cons_succ, List.getElem_cons_zero, Act.put, List.setIfInBounds_toArray, List.set_cons_zero, List.set_cons_succ]))
      refine plan_done ?_
      refine NoPanic.normal ?_
      go_wp2
      go_ret
      exact ⟨⟨_, rfl, hxs⟩, hB2⟩
  · (refine plan_one rfl (by rfl) (fun K hK => ?_); go_simp)
    refine (HP.out _).mono ?_
    rintro e w2 ⟨rfl, hb⟩
    (try go_simp)
    have hB2 : Below w.heap.size w (w2.alloc (.cells #[.int .u8 c] 5)) := qtrans (qtrans (qrefl w).drew hb) (qalloc _ _)
    have hc2 : (w2.alloc (.cells #[.int .u8 c] 5)).cell? ⟨w2.heap.size, 0, none⟩ = some (.int .u8 c) := by simp
    have kc := HC.out (w2.alloc (.cells #[.int .u8 c] 5)) _ hc2
    clear hb hc2
    (refine hK.out _ _ trivial ?_; clear hK K; (try simp only [List.getElem_toArray, List.getElem_cons_succ, List.getElem_cons_zero, Act.put, List.setIfInBounds_toArray, List.set_cons_zero, List.set_cons_succ]))
    (refine plan_one rfl (by rfl) (fun K hK => ?_); go_simp)
    (refine hK.out _ _ trivial ?_; clear hK K; (try simp only [List.getElem_toArray, List.getElem_cons_succ, List.getElem_cons_zero, Act.put, List.setIfInBounds_toArray, List.set_cons_zero, List.set_cons_succ]))
    (refine plan_one rfl (by rfl) (fun K hK => ?_); go_simp)
    (refine hK.out _ _ trivial ?_; clear hK K; (try simp only [List.getElem_toArray, List.getElem_cons_succ, List.getElem_cons_zero, Act.put, List.setIfInBounds_toArray, List.set_cons_zero, List.set_cons_succ]))
    (refine plan_one rfl (by rfl) (fun K hK => ?_); go_simp)
    (refine hK.out _ _ trivial ?_; clear hK K; (try simp only [List.getElem_toArray, List.getElem_cons_succ, List.getElem_cons_zero, Act.put, List.setIfInBounds_toArray, List.set_cons_zero, List.set_cons_succ]))
    (refine plan_one rfl (by rfl) (fun K hK => ?_); go_simp)
    (refine hK.out _ _ trivial ?_; clear hK K; (try simp only [List.getElem_toArray, List.getElem_cons_succ, List.getElem_cons_zero, Act.put, List.setIfInBounds_toArray, List.set_cons_zero, List.set_cons_succ]))
    refine plan_done ?_
    refine NoPanic.normal ?_
    go_wp2
    go_ret
    exact ⟨⟨_, rfl, hxs⟩, hB2⟩
theorem r1put_any (n : Int) (h0 : 0 ≤ n) (h1 : n < 16384) (w : World) : Calls Tryz.prog 166 #[.int .i64 n] w fun e w' => (∃ x : ByteArray, e = .returned (.string x) ∧ x.size ≤ 2) ∧ Below w.heap.size w w' := by
  by_cases h : n < 128
  · refine (r1put_one n h0 h w).mono ?_
    rintro e w' ⟨rfl, hb⟩
    exact ⟨⟨_, rfl, by rw [u8of_size]; omega⟩, hb⟩
  · exact r1put_two n (by omega) h1 w
end Go.Proofs.YtidkpnabdfiilaaGreatDoor
