/- codec.PutText and object.Check at data of any size; tree.isPath at a path of any size. -/
import Derived.Test.YtidkpnabdfiilaaGreatDoorQ14
namespace Go.Proofs.YtidkpnabdfiilaaGreatDoor
open Go.RowKit

theorem PutText_long (s : ByteArray) (hs : 65536 < s.size) (hz : s.size ≤ 9223372036854775807) (w : World) : Calls Tryz.prog 104 #[.string s] w fun e w' => e = .returned (.tuple #[.string ⟨#[]⟩, .int .i64 4]) ∧ Below w.heap.size w w' := by
  go_enter Tryz.func104, Tryz.ntmps104
  go_wp2
  go_ret2
  exact ⟨rfl, qrefl _⟩
theorem pushX {R : Nat} {bd : Bool} {l m : List UInt8} {W w2 : World} {v v' : Value} (h1 : CBox W R 198 #[v, .bool bd]) (h2 : W.ownsRow (R + 1) 5 1 v l.length (Lib.byteCells l))
    (ho : w2.ownsRow (R + 1) 5 1 v' (l.length + m.length) (Lib.byteCells l ++ Lib.byteCells m)) (hg : W.grownBy w2 v.ownBlock) :
    CBox w2 R 198 #[v, .bool bd] ∧ CBox (w2.setCell ⟨R, 0, none⟩ v') R 198 #[v', .bool bd] ∧ (w2.setCell ⟨R, 0, none⟩ v').ownsRow (R + 1) 5 1 v' (l ++ m).length (Lib.byteCells (l ++ m)) ∧ Below R W (w2.setCell ⟨R, 0, none⟩ v') := by
  have hne : ∀ k, v.ownBlock = some k → R + 1 ≤ k := fun k hk => owns_block h2 hk
  have b2 : CBox w2 R 198 #[v, .bool bd] := (hg.block R h1.lt (fun e => by have := hne R e.symm; omega)).trans h1
  have ms : Mod [R] w2 (w2.setCell ⟨R, 0, none⟩ v') := (Mod.refl _ _).setCell (by simp) _
  refine ⟨b2, b2.set 0 v', ?_, ?_⟩
  · rw [List.length_append, show Lib.byteCells (l ++ m) = Lib.byteCells l ++ Lib.byteCells m by simp [Lib.byteCells]]
    exact owns_mod ho ms (fun b hb hx => by have := owns_block ho hb; simp at hx; omega)
  · have hR := h1.lt
    exact ((Below.refl R W).grown hg (Nat.le_of_lt hR) (fun k hk => by have := hne k hk; omega)).setCell (Nat.le_refl _) _
/-- The writer in block R: some text of at most n bytes; something was bad, or not. -/
def WBx (R k n : Nat) (bd : Bool) (W : World) : Prop := ∃ (v : Value) (l : List UInt8), CBox W R 198 #[v, .bool bd] ∧ W.ownsRow (R + 1) 5 1 v l.length (Lib.byteCells l) ∧ k ≤ l.length ∧ l.length ≤ n
set_option maxRecDepth 100000 in
set_option maxHeartbeats 1000000 in
theorem wstring_m (s : ByteArray) (hn : s.size ≤ 65536) (R : Nat) (l : List UInt8) (w : World) (h : WB R l w) (hl : l.length ≤ 1000000) :
    Calls Tryz.prog 158 #[.pointer (some ⟨R, 0, none⟩), .string s] w fun e w' => e = .returned (.tuple #[]) ∧ WBx R l.length (l.length + 65545) false w' ∧ Below R w w' := by
  obtain ⟨i0, hi, hz0, hz1, hz2⟩ := info_parts infoByte
  have hRw := h.lt
  go_enter Tryz.func158, Tryz.ntmps158
  go_wp2_with (fail)
  refine (PutText_any s hn w).mono ?_
  rintro e w1 ⟨rfl, hb1⟩
  obtain ⟨v, h1, h2⟩ := h.below hb1
  have hil : (intB s.size ++ s.data.toList).length ≤ 65545 := by have := (digs_len 8 s.size).2; rw [List.length_append, sz]; unfold intB; omega
  generalize hbt : (intB s.size ++ s.data.toList) = bt at *
  clear hbt
  have HI : Hid ((⟨bt.toArray⟩ : ByteArray).data.toList = bt) := rfl
  generalize (⟨bt.toArray⟩ : ByteArray) = t at *
  have hts : t.size ≤ 65545 := by rw [← sz, HI.out]; omega
  have h1s := h1.set 1 (.bool false)
  have h2s : (w1.setCell ⟨R, 1, none⟩ (.bool false)).ownsRow (R + 1) 5 1 v l.length (Lib.byteCells l) := owns_mod h2 ((Mod.refl [R] _).setCell (by simp) _) (fun b hb hx => by have := owns_block h2 hb; simp at hx; omega)
  have hbs : Below R w1 (w1.setCell ⟨R, 1, none⟩ (.bool false)) := (Below.refl R w1).setCell (p := ⟨R, 1, none⟩) (Nat.le_refl R) _
  have c1 := h1.cell (i := 1) rfl
  have f1 := h1.frozen 1
  have l1 := h1.lt
  obtain ⟨va, vc, rfl⟩ := owns_val h2
  go_upto_region 2 with (fail)
  generalize w1.setCell ⟨R, 1, none⟩ (.bool false) = W2 at *
  have H1 : Hid (CBox W2 R 198 #[.slice va l.length vc, .bool false]) := h1s
  have c0 := H1.out.cell (i := 0) rfl
  have l0 := H1.out.lt
  clear h1s c1 f1 h1 h2 l1
  go_wp2_with (at_builtin; refine Lib.wpList_append_own_string _ rfl _ _ 66 9 rfl (R + 1) 5 i0 Tryz.underlying66 Tryz.underlying9 hi hz0 hz1 hz2 _ _ _ rfl h2s t rfl (by unfold maxLen; omega) (by omega) (by omega) ?_)
  intro v' w3 hown3 hg3 _
  rw [strCells_bytes, HI.out] at hown3
  have hts2 : t.size = bt.length := by rw [← sz, HI.out]
  rw [hts2] at hown3
  obtain ⟨b2, hw, ho, hbw⟩ := pushX H1.out h2s hown3 hg3
  have HWB : Hid (WBx R l.length (l.length + 65545) false (w3.setCell ⟨R, 0, none⟩ v')) := ⟨v', _, hw, ho, by rw [List.length_append]; omega, by rw [List.length_append]; omega⟩
  obtain ⟨va', vc', rfl⟩ := owns_val hown3
  have d0 := b2.cell (i := 0) rfl
  have g0 := b2.frozen 0
  have m0 := b2.lt
  clear hown3 hg3 hw b2 h2s ho
  go_wp2
  go_end0
  exact ⟨rfl, HWB.out, ((hb1.mono (Nat.le_of_lt hRw)).trans hbs).trans hbw⟩
set_option maxRecDepth 100000 in
set_option maxHeartbeats 1000000 in
theorem wstring_l (s : ByteArray) (hn : 65536 < s.size) (hz : s.size ≤ 9223372036854775807) (R : Nat) (l : List UInt8) (w : World) (h : WB R l w) (hl : l.length ≤ 1000000) :
    Calls Tryz.prog 158 #[.pointer (some ⟨R, 0, none⟩), .string s] w fun e w' => e = .returned (.tuple #[]) ∧ WBx R l.length (l.length + 65545) true w' ∧ Below R w w' := by
  obtain ⟨i0, hi, hz0, hz1, hz2⟩ := info_parts infoByte
  have hRw := h.lt
  go_enter Tryz.func158, Tryz.ntmps158
  go_wp2_with (fail)
  refine (PutText_long s hn hz w).mono ?_
  rintro e w1 ⟨rfl, hb1⟩
  obtain ⟨v, h1, h2⟩ := h.below hb1
  have hil : (([] : List UInt8)).length ≤ 65545 := by decide
  rw [show (⟨#[]⟩ : ByteArray) = ⟨([] : List UInt8).toArray⟩ from rfl]
  generalize hbt : (([] : List UInt8)) = bt at *
  clear hbt
  have HI : Hid ((⟨bt.toArray⟩ : ByteArray).data.toList = bt) := rfl
  generalize (⟨bt.toArray⟩ : ByteArray) = t at *
  have hts : t.size ≤ 65545 := by rw [← sz, HI.out]; omega
  have h1s := h1.set 1 (.bool true)
  have h2s : (w1.setCell ⟨R, 1, none⟩ (.bool true)).ownsRow (R + 1) 5 1 v l.length (Lib.byteCells l) := owns_mod h2 ((Mod.refl [R] _).setCell (by simp) _) (fun b hb hx => by have := owns_block h2 hb; simp at hx; omega)
  have hbs : Below R w1 (w1.setCell ⟨R, 1, none⟩ (.bool true)) := (Below.refl R w1).setCell (p := ⟨R, 1, none⟩) (Nat.le_refl R) _
  have c1 := h1.cell (i := 1) rfl
  have f1 := h1.frozen 1
  have l1 := h1.lt
  obtain ⟨va, vc, rfl⟩ := owns_val h2
  go_upto_region 2 with (fail)
  generalize w1.setCell ⟨R, 1, none⟩ (.bool true) = W2 at *
  have H1 : Hid (CBox W2 R 198 #[.slice va l.length vc, .bool true]) := h1s
  have c0 := H1.out.cell (i := 0) rfl
  have l0 := H1.out.lt
  clear h1s c1 f1 h1 h2 l1
  go_wp2_with (at_builtin; refine Lib.wpList_append_own_string _ rfl _ _ 66 9 rfl (R + 1) 5 i0 Tryz.underlying66 Tryz.underlying9 hi hz0 hz1 hz2 _ _ _ rfl h2s t rfl (by unfold maxLen; omega) (by omega) (by omega) ?_)
  intro v' w3 hown3 hg3 _
  rw [strCells_bytes, HI.out] at hown3
  have hts2 : t.size = bt.length := by rw [← sz, HI.out]
  rw [hts2] at hown3
  obtain ⟨b2, hw, ho, hbw⟩ := pushX H1.out h2s hown3 hg3
  have HWB : Hid (WBx R l.length (l.length + 65545) true (w3.setCell ⟨R, 0, none⟩ v')) := ⟨v', _, hw, ho, by rw [List.length_append]; omega, by rw [List.length_append]; omega⟩
  obtain ⟨va', vc', rfl⟩ := owns_val hown3
  have d0 := b2.cell (i := 0) rfl
  have g0 := b2.frozen 0
  have m0 := b2.lt
  clear hown3 hg3 hw b2 h2s ho
  go_wp2
  go_end0
  exact ⟨rfl, HWB.out, ((hb1.mono (Nat.le_of_lt hRw)).trans hbs).trans hbw⟩
theorem wstring_x (s : ByteArray) (hz : s.size ≤ 9223372036854775807) (R : Nat) (l : List UInt8) (w : World) (h : WB R l w) (hl : l.length ≤ 1000000) :
    Calls Tryz.prog 158 #[.pointer (some ⟨R, 0, none⟩), .string s] w fun e w' => ∃ bd, e = .returned (.tuple #[]) ∧ WBx R l.length (l.length + 65545) bd w' ∧ Below R w w' := by
  by_cases hn : s.size ≤ 65536
  · refine (wstring_m s hn R l w h hl).mono ?_
    rintro e w' ⟨h1, h2⟩
    exact ⟨_, h1, h2⟩
  · refine (wstring_l s (by omega) hz R l w h hl).mono ?_
    rintro e w' ⟨h1, h2⟩
    exact ⟨_, h1, h2⟩
set_option maxRecDepth 100000 in
set_option maxHeartbeats 1000000 in
theorem Encode_x (d : ByteArray) (hd : d.size ≤ 9223372036854775807) (w : World) : Calls Tryz.prog 124 #[blobV d] w fun e w' => ∃ er, EncPost er w e w' := by
  have HC := Lib.hid (fun w => ocheck_blob d w)
  unfold blobV at *
  have HB := Lib.hid (CBox.new w 96 #[.int .i64 1, .string d, .slice none 0 0, .int .u64 0, .int .u64 0, .slice none 0 0, .string ⟨#[]⟩, .int .i64 0, .string ⟨#[]⟩])
  have hA := qalloc w (.cells #[.int .i64 1, .string d, .slice none 0 0, .int .u64 0, .int .u64 0, .slice none 0 0, .string ⟨#[]⟩, .int .i64 0, .string ⟨#[]⟩] 96)
  go_enter Tryz.func124, Tryz.ntmps124
  go_wp2_with (fail)
  refine (HC.out _).mono ?_
  rintro e w1 ⟨rfl, hb1⟩
  have HB1 := Lib.hid (HB.out.below hb1)
  have hbb := qtrans hA hb1
  have q0 := HB1.out.cell (i := 0) rfl
  have q1 := HB1.out.cell (i := 1) rfl
  have l1 := HB1.out.lt
  clear HB HC hb1 hA
  have HW := Lib.hid (WB.new w1)
  have hA1 := qalloc w1 (.cells #[.slice none 0 0, .bool false] 198)
  have HB2 := Lib.hid (HB1.out.below hA1)
  go_wp2_with (fail)
  refine (wnumber_any 1 (by omega) w1.heap.size [] _ HW.out (by simp)).mono ?_
  rintro e w2 ⟨rfl, h2, hb2⟩
  have H2 := Lib.hid h2
  have p0 : w2.cell? ⟨w.heap.size, 0, none⟩ = some (.int .i64 1) := (((hA1.mono (Nat.le_refl _)).trans hb2).cell (p := ⟨w.heap.size, 0, none⟩) l1).trans q0
  have p1 : w2.cell? ⟨w.heap.size, 1, none⟩ = some (.string d) := (((hA1.mono (Nat.le_refl _)).trans hb2).cell (p := ⟨w.heap.size, 1, none⟩) l1).trans q1
  have l2 : w.heap.size < w2.heap.size := by have := hb2.size; simp at this; omega
  have hb12 : Below w1.heap.size w1 w2 := hA1.trans hb2
  clear h2 hb2 HW HB2 hA1 HB1
  go_wp2_with (fail)
  refine (wstring_x d hd w1.heap.size _ _ H2.out (by have := (digs_len 8 1).2; simp [intB]; omega)).mono ?_
  rintro e w3 ⟨bd, rfl, h3, hb3⟩
  obtain ⟨v, L, b3, o3, hlow, hlen⟩ := h3
  have hlen2 : L.length ≤ 100000 := by
    have h8 := (digs_len 8 1).2
    simp [intB] at *
    omega
  have r0 := b3.cell (i := 0) rfl
  have r1 := b3.cell (i := 1) rfl
  have l3 := b3.lt
  obtain ⟨va, vc, rfl⟩ := owns_val o3
  cases bd with
  | true =>
    clear o3 b3 H2 hlen hlow
    go_wp2
    go_ret2
    exact ⟨_, _, rfl, qtrans hbb (hb12.trans hb3)⟩
  | false =>
    by_cases hL : 65536 < L.length
    · clear o3 b3 H2 hlen hlow
      go_wp2
      go_ret2
      exact ⟨_, _, rfl, qtrans hbb (hb12.trans hb3)⟩
    · have hne : L ≠ [] := fun e => by
        subst e
        have h8 := (digs_len 8 1).1
        have h9 : (intB 1).length ≤ 0 := hlow
        unfold intB at h9
        omega
      have hconv := run_text o3 hne
      clear o3 b3 H2 hlen hlow
      go_wp2
      go_ret2
      exact ⟨_, _, rfl, qtrans hbb (hb12.trans hb3)⟩
set_option maxRecDepth 100000 in
theorem oCheck_x (d : ByteArray) (hd : d.size ≤ 9223372036854775807) (w : World) : Calls Tryz.prog 80 #[blobV d] w fun e w' => ∃ er : Int, e = .returned (.int .i64 er) ∧ Below w.heap.size w w' := by
  have HE := Lib.hid (fun w => Encode_x d hd w)
  unfold blobV at *
  go_enter Tryz.func80, Tryz.ntmps80
  go_wp2_with (fail)
  refine (HE.out _).mono ?_
  rintro e w1 ⟨er, t, rfl, hb1⟩
  go_wp2
  go_ret
  exact ⟨_, rfl, qtrans (qalloc _ _) hb1⟩
theorem isPath_x (s : ByteArray) (w : World) (hs : s.size ≤ 9223372036854775807) :
    Calls Tryz.prog 79 #[.string s] w fun e w' => e = .returned (.bool (pathS s)) ∧ Below w.heap.size w w' := by
  by_cases h : s.size ≤ 40000
  · exact isPath_any s w h
  · have h1 : 100 < s.size := by omega
    have H := Lib.hid (path_long h1)
    go_enter Tryz.func79, Tryz.ntmps79
    go_wp2
    refine bodyPost_ret (v := .bool false) (by simp [results, Tryz.results79, go_sem]) rfl ⟨by rw [H.out], ?_⟩
    exact qalloc _ _
end Go.Proofs.YtidkpnabdfiilaaGreatDoor
