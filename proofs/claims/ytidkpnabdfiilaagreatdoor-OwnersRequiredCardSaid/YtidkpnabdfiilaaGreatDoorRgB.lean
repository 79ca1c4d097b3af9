/- The reference of chapters 1 and 7 at a blob: PutInt, PutText, number, text, zero, only, fields, encode, Check; blob of chapter 9. -/
import Derived.Test.YtidkpnabdfiilaaGreatDoorRgA
namespace Go.Proofs.YtidkpnabdfiilaaGreatDoor
open Go.RowKit Go.Shelf
attribute [local go_sem] Oper.semAt_some

theorem r1PutInt_any (n : Int) (h0 : 0 ≤ n) (h1 : n < 16384) (w : World) : Calls Tryz.prog 141 #[.int .i64 n] w fun e w' => (∃ x : ByteArray, e = .returned (.tuple #[.string x, .int .i64 0]) ∧ x.size ≤ 2) ∧ Below w.heap.size w w' := by
  have hd : decide (n < 0) = false := decide_eq_false (by omega)
  have hd2 : decide (1099511627776 < n) = false := decide_eq_false (by omega)
  have HP := Lib.hid (r1put_any n h0 h1)
  go_enter Tryz.func141, Tryz.ntmps141
  go_wp2_with (fail)
  refine (HP.out _).mono ?_
  rintro e w1 ⟨⟨x, rfl, hx⟩, hb⟩
  go_wp2
  go_ret2
  exact ⟨⟨x, rfl, hx⟩, hb⟩
theorem r1PutText_any (s : ByteArray) (h1 : s.size < 16384) (w : World) : Calls Tryz.prog 142 #[.string s] w fun e w' => (∃ x : ByteArray, e = .returned (.tuple #[.string x, .int .i64 0]) ∧ x.size ≤ 16386) ∧ Below w.heap.size w w' := by
  have hd2 : decide (65536 < (s.size : Int)) = false := decide_eq_false (by omega)
  have HP := Lib.hid (r1put_any s.size (by omega) (by omega))
  go_enter Tryz.func142, Tryz.ntmps142
  go_wp2_with (fail)
  refine (HP.out _).mono ?_
  rintro e w1 ⟨⟨x, rfl, hx⟩, hb⟩
  have hsz : ¬ (9223372036854775807 < x.size + s.size) := by omega
  have hxs : (x ++ s).size ≤ 16386 := by rw [ByteArray.size_append]; omega
  go_wp2
  go_ret2
  exact ⟨⟨_, rfl, hxs⟩, hb⟩
theorem r7number_any (n : Int) (h0 : 0 ≤ n) (h1 : n < 16384) (w : World) : Calls Tryz.prog 134 #[.int .i64 n] w fun e w' => (∃ x : ByteArray, e = .returned (.string x) ∧ x.size ≤ 2) ∧ Below w.heap.size w w' := by
  have HP := Lib.hid (r1PutInt_any n h0 h1)
  go_enter Tryz.func134, Tryz.ntmps134
  go_wp2_with (fail)
  refine (HP.out _).mono ?_
  rintro e w1 ⟨⟨x, rfl, hx⟩, hb⟩
  go_wp2
  go_ret
  exact ⟨⟨x, rfl, hx⟩, hb⟩
theorem r7text_any (s : ByteArray) (h1 : s.size < 16384) (w : World) : Calls Tryz.prog 135 #[.string s] w fun e w' => (∃ x : ByteArray, e = .returned (.string x) ∧ x.size ≤ 16386) ∧ Below w.heap.size w w' := by
  have HP := Lib.hid (r1PutText_any s h1)
  go_enter Tryz.func135, Tryz.ntmps135
  go_wp2_with (fail)
  refine (HP.out _).mono ?_
  rintro e w1 ⟨⟨x, rfl, hx⟩, hb⟩
  go_wp2
  go_ret
  exact ⟨⟨x, rfl, hx⟩, hb⟩
theorem r7zero_zero (w : World) : Calls Tryz.prog 163 #[.agg #[.int .u64 0, .int .u64 0]] w fun e w' => e = .returned (.bool true) ∧ Below w.heap.size w w' := by
  go_enter Tryz.func163, Tryz.ntmps163
  go_wp2
  go_ret
  exact ⟨rfl, qalloc _ _⟩
def blobC (d : ByteArray) : Array Value := #[.int .i64 1, .string d, .slice none 0 0, .int .u64 0, .int .u64 0, .slice none 0 0, .string ⟨#[]⟩, .int .i64 0, .string ⟨#[]⟩]
theorem blob_box (w : World) (d : ByteArray) : Hid (∀ w1, Below (w.heap.size + 1) (w.alloc (.cells (blobC d) 96)) w1 → Below w.heap.size w w1 ∧ CBox w1 w.heap.size 96 (blobC d)) := fun w1 h => by
  have h' : Below (w.alloc (.cells (blobC d) 96)).heap.size (w.alloc (.cells (blobC d) 96)) w1 := by simpa using h
  exact ⟨qtrans (qalloc _ _) h', (CBox.new w 96 (blobC d)).below h'⟩
set_option maxRecDepth 100000 in
set_option maxHeartbeats 1000000 in
theorem r7only_blob (d : ByteArray) (w : World) : Calls Tryz.prog 131 #[blobV d] w fun e w' => e = .returned (.bool true) ∧ Below w.heap.size w w' := by
  have HZ := Lib.hid (fun w => r7zero_zero w)
  have HB := blob_box w d
  unfold blobC at HB
  unfold blobV
  go_enter Tryz.func131, Tryz.ntmps131
  go_wp2_with (fail)
  refine (HZ.out _).mono ?_
  rintro e w1 ⟨rfl, hb⟩
  obtain ⟨hb1, hB⟩ := HB.out w1 (by simpa using hb)
  have q5 := hB.cell (i := 5) rfl
  have q6 := hB.cell (i := 6) rfl
  have q7 := hB.cell (i := 7) rfl
  have q8 := hB.cell (i := 8) rfl
  clear HB HZ hB hb
  go_wp2
  go_ret
  exact ⟨rfl, hb1⟩
set_option maxRecDepth 100000 in
set_option maxHeartbeats 1000000 in
theorem r7fields_blob (d : ByteArray) (hd : d.size ≤ 16000) (w : World) : Calls Tryz.prog 92 #[blobV d] w fun e w' => e = .returned (.int .i64 0) ∧ Below w.heap.size w w' := by
  have HZ := Lib.hid (fun w => r7only_blob d w)
  have HB := blob_box w d
  unfold blobC at HB
  have hd2 : decide (65536 < (d.size : Int)) = false := decide_eq_false (by omega)
  unfold blobV at *
  go_enter Tryz.func92, Tryz.ntmps92
  go_wp2_with (fail)
  refine (HZ.out _).mono ?_
  rintro e w1 ⟨rfl, hb⟩
  obtain ⟨hb1, hB⟩ := HB.out w1 (by simpa using hb)
  have q0 := hB.cell (i := 0) rfl
  have q1 := hB.cell (i := 1) rfl
  clear HB HZ hB hb
  go_wp2
  go_ret
  exact ⟨rfl, hb1⟩
set_option maxRecDepth 100000 in
set_option maxHeartbeats 1000000 in
theorem r7encode_blob (d : ByteArray) (hd : d.size ≤ 16000) (w : World) : Calls Tryz.prog 93 #[blobV d] w fun e w' => (∃ x : ByteArray, e = .returned (.string x) ∧ x.size ≤ 16388) ∧ Below w.heap.size w w' := by
  have HN := Lib.hid (fun w => r7number_any 1 (by omega) (by omega) w)
  have HT := Lib.hid (fun w => r7text_any d (by omega) w)
  have HB := blob_box w d
  unfold blobC at HB
  unfold blobV at *
  go_enter Tryz.func93, Tryz.ntmps93
  go_wp2_with (fail)
  refine (HN.out _).mono ?_
  rintro e w1 ⟨⟨x, rfl, hx⟩, hb⟩
  obtain ⟨hb1, hB⟩ := HB.out w1 (by simpa using hb)
  have q0 := hB.cell (i := 0) rfl
  have q1 := hB.cell (i := 1) rfl
  clear HB HN hB hb
  go_wp2_with (fail)
  refine (HT.out _).mono ?_
  rintro e w2 ⟨⟨y, rfl, hy⟩, hb2⟩
  have hbb := qtrans hb1 hb2
  have hsz : ¬ (9223372036854775807 < x.size + y.size) := by omega
  have hxs : (x ++ y).size ≤ 16388 := by rw [ByteArray.size_append]; omega
  clear hb1 hb2 q0 q1 HT
  go_wp2
  go_ret
  exact ⟨⟨_, rfl, hxs⟩, hbb⟩
set_option maxRecDepth 100000 in
set_option maxHeartbeats 1000000 in
theorem r7Check_blob (d : ByteArray) (hd : d.size ≤ 16000) (w : World) : Calls Tryz.prog 56 #[blobV d] w fun e w' => e = .returned (.int .i64 0) ∧ Below w.heap.size w w' := by
  have HF := Lib.hid (fun w => r7fields_blob d hd w)
  have HE := Lib.hid (fun w => r7encode_blob d hd w)
  have HB := blob_box w d
  unfold blobC at HB
  unfold blobV at *
  go_enter Tryz.func56, Tryz.ntmps56
  go_wp2_with (fail)
  refine (HF.out _).mono ?_
  rintro e w1 ⟨rfl, hb⟩
  obtain ⟨hb1, hB⟩ := HB.out w1 (by simpa using hb)
  have q0 := hB.cell (i := 0) rfl
  have q1 := hB.cell (i := 1) rfl
  have q2 := hB.cell (i := 2) rfl
  have q3 := hB.cell (i := 3) rfl
  have q4 := hB.cell (i := 4) rfl
  have q5 := hB.cell (i := 5) rfl
  have q6 := hB.cell (i := 6) rfl
  have q7 := hB.cell (i := 7) rfl
  have q8 := hB.cell (i := 8) rfl
  clear HB HF hB hb
  go_wp2_with (fail)
  refine (HE.out _).mono ?_
  rintro e w2 ⟨⟨y, rfl, hy⟩, hb2⟩
  have hbb := qtrans hb1 hb2
  have hd2 : decide (65536 < (y.size : Int)) = false := decide_eq_false (by omega)
  clear hb1 hb2 q0 q1 q2 q3 q4 q5 q6 q7 q8 HE
  go_wp2
  go_ret
  exact ⟨rfl, hbb⟩
theorem r9blob_any (d : ByteArray) (w : World) : Calls Tryz.prog 57 #[.string d] w fun e w' => e = .returned (blobV d) ∧ Below w.heap.size w w' := by
  go_enter Tryz.func57, Tryz.ntmps57
  go_wp2
  exact bodyPost_ret (v := blobV d) (by simp [results, Tryz.results57, go_sem, blobV]) rfl ⟨rfl, qalloc _ _⟩
end Go.Proofs.YtidkpnabdfiilaaGreatDoor
