/- object.writer's digest. object.check, Encode and Check at a commit and at a blob; owners.isName, isPerson. object.Encode at a commit and at a blob. -/
import Derived.Test.YtidkpnabdfiilaaGreatDoorQ09
import Derived.Test.YtidkpnabdfiilaaGreatDoorQ04
import Derived.ChangeKeysEq
import Derived.Laws.IdiomStrings
namespace Go.Proofs.YtidkpnabdfiilaaGreatDoor
open Go.RowKit

theorem mixedK : Tryz.prog.follows .mixedOrders = true := by kernel_rfl
theorem run_dig0 (a b : Value) (w : World) : (Instr.index 93 (.agg #[a, b]) (.int .i64 0)).run Tryz.prog w = .ok a w := by
  unfold Instr.index
  simp [run_underlying Tryz.underlying93, asIntOf, go_sem, part, Tryz.sizeOf91, Tryz.isAgg91]
theorem run_dig1 (a b : Value) (w : World) : (Instr.index 93 (.agg #[a, b]) (.int .i64 1)).run Tryz.prog w = .ok b w := by
  unfold Instr.index
  simp [run_underlying Tryz.underlying93, asIntOf, go_sem, part, Tryz.sizeOf91, Tryz.isAgg91]
attribute [local go_sem] run_dig0 run_dig1
theorem wrap_byte (x : Int) : ∃ c : UInt8, IntKind.u8.wrap x = (c.toNat : Int) := by
  refine ⟨UInt8.ofNat (x % 256).toNat, ?_⟩
  rw [UInt8.toNat_ofNat']
  simp [IntKind.wrap, IntKind.bits, IntKind.signed]
  omega
set_option maxRecDepth 100000 in
set_option maxHeartbeats 1000000 in
theorem wdigest_any (d0 d1 : Nat) (h0 : d0 < 2 ^ 64) (h1 : d1 < 2 ^ 64) (R : Nat) (l : List UInt8) (w : World) (h : WB R l w) (hl : l.length ≤ 1000000) :
    Calls Tryz.prog 159 #[.pointer (some ⟨R, 0, none⟩), .agg #[.int .u64 d0, .int .u64 d1]] w fun e w' => e = .returned (.tuple #[]) ∧ (∃ m : List UInt8, m.length = 16 ∧ WB R (l ++ m) w') ∧ Below R w w' := by
  obtain ⟨i0, hi, hz0, hz1, hz2⟩ := info_parts infoByte
  have hRw := h.lt
  have HB := Lib.hid (h.below (qalloc w (.cells #[.int .u64 d0, .int .u64 d1] 93)))
  have hbb := (qalloc w (.cells #[.int .u64 (d0 : Int), .int .u64 d1] 93)).mono (Nat.le_of_lt hRw)
  clear h
  go_enter Tryz.func159, Tryz.ntmps159
  go_wp2
  generalize w.alloc (.cells #[.int .u64 (d0 : Int), .int .u64 d1] 93) = W0 at *
  go_loopw [8, 5, 6] (fun i _ _ wr => ∃ (k : Nat) (m : List UInt8), k ≤ 2 ∧ i = .int .i64 k ∧ m.length = k * 8 ∧ Hid (WB R (l ++ m) wr) ∧ Below R w wr) (fun i _ _ _ => 2 - (intOf i).toNat)
  case atStart => exact ⟨0, [], by omega, rfl, rfl, by simpa using HB, hbb⟩
  case round =>
    obtain ⟨k, m, hk, rfl, hm, HW, hbr⟩ := hrel
    by_cases hlt : k < 2
    · have hq : ∃ q : Nat, q < 2 ^ 64 ∧ ((k = 0 ∧ q = d0) ∨ (k = 1 ∧ q = d1)) := by
        rcases Nat.lt_or_ge k 1 with hh | hh
        · exact ⟨d0, h0, .inl ⟨by omega, rfl⟩⟩
        · exact ⟨d1, h1, .inr ⟨by omega, rfl⟩⟩
      obtain ⟨q, hq1, hq2⟩ := hq
      rcases hq2 with ⟨rfl, rfl⟩ | ⟨rfl, rfl⟩ <;>
      · generalize wr = wo at *
        go_wp2
        go_loopw [6] (fun sv wr => ∃ (j : Nat) (m' : List UInt8), j ≤ 8 ∧ sv = .int .i64 (56 - 8 * (j : Int)) ∧ m'.length = m.length + j ∧ Hid (WB R (l ++ m') wr) ∧ Below R w wr) (fun sv _ => (intOf sv + 8).toNat)
        case atStart => exact ⟨0, m, by omega, by simp, rfl, HW, hbr⟩
        case round =>
          obtain ⟨j, m', hj, rfl, hm', HW', hbr'⟩ := hrel
          by_cases hj8 : j < 8
          · have hsh : (0 : Int) ≤ 56 - 8 * (j : Int) := by omega
            obtain ⟨v, b1, b2⟩ := HW'.out
            obtain ⟨va, vc, rfl⟩ := owns_val b2
            have c0 := b1.cell (i := 0) rfl
            have l0 := b1.lt
            go_wp2
            obtain ⟨c, hc⟩ := wrap_byte ((q : Int) / 2 ^ (56 - 8 * (j : Int)).toNat)
            have HC := Lib.hid hc
            have hll : (l ++ m').length ≤ 1000016 := by simp; omega
            have hlw : R + 1 ≤ wr.heap.size := l0
            have H1 := Lib.hid b1
            have H2 := Lib.hid b2
            have c0' : wr.drew.cell? ⟨R, 0, none⟩ = some (.slice va (l ++ m').length vc) := c0
            clear b1 b2 hc c0
            generalize hL : l ++ m' = L at *
            have HL := Lib.hid hL
            clear hL
            refine wp_region_noPanic (region_lexT (fun W => W.cell? ⟨R, 0, none⟩ = some (.slice va L.length vc)) [true, true, true, true, true, true, true, true, true, false, false] mixedK (by kernel_rfl) (fun _ _ _ _ _ h => h) c0' (fun hHeld => ?_))
            clear c0'
            have H1d : Hid (CBox wr.drew R 198 #[.slice va L.length vc, .bool false]) := H1.out.below (qrefl wr).drew
            have H2d : Hid (wr.drew.ownsRow (R + 1) 5 1 (.slice va L.length vc) L.length (Lib.byteCells L)) := owns_below H2.out (qrefl wr).drew
            have hbd : Below R w wr.drew := hbr'.drew
            have hld : R + 1 ≤ wr.drew.heap.size := hlw
            clear H1 H2 hlw l0
            generalize wr.drew = WD at *
            iterate 9 (first | (refine lexT_skip (by rfl) ?_; (try simp only [Act.put, List.setIfInBounds_toArray, List.set_cons_zero, List.set_cons_succ])) | (refine lexT_take (v := ?_) (by rfl) ?_ ?_; rotate_left; (focus (intro wq hSw; (try dsimp only at hSw); go_simp; (try with_reducible rfl))); (try simp only [Act.put, List.setIfInBounds_toArray, List.set_cons_zero, List.set_cons_succ])))
            rw [HC.out]
            (refine lexT_do (by rfl) (fun K hK => ?_); go_simp)
            have H1e := Lib.hid (H1d.out.alloc (.cells #[.int .u8 (c.toNat : Int)] 5))
            have c0e := H1e.out.cell (i := 0) rfl
            refine hK.out _ _ c0e (fun hHeld1 => ?_)
            clear hK K hHeld c0e
            (try simp only [Act.put, List.setIfInBounds_toArray, List.set_cons_zero, List.set_cons_succ])
            refine lexT_do (by rfl) (fun K hK => ?_)
            refine wp_append_own _ _ _ 66 rfl (R + 1) 5 i0 _ 1 1 Tryz.underlying66 hi hz0 hz1 hz2 rfl (by decide) _ _ _ rfl (H2d.out.alloc _) ⟨WD.heap.size, 0, none⟩ 1 1 [.int .u8 (c.toNat : Int)] rfl rfl (cell_one_new _ _ _) (by simp [Value.oneCell']) (by unfold maxLen; omega) (by omega) (by simp; omega) (fun v1 w1 hown1 hg1 _ => ?_)
            obtain ⟨b2, hw, hbw⟩ := WB.push (m := [c]) H1e.out (H2d.out.alloc _) hown1 hg1
            have c0f := b2.cell (i := 0) rfl
            refine hK.out _ _ c0f (fun hHeld => ?_)
            obtain ⟨va', vc', rfl⟩ := owns_val hown1
            have HWB := Lib.hid hw
            have g0 := b2.frozen 0
            have n0 := b2.lt
            clear hK K hHeld1 hown1 hg1 hw b2
            (try simp only [Act.put, List.setIfInBounds_toArray, List.set_cons_zero, List.set_cons_succ])
            refine lexT_end ?_
            go_wp2_with (fail)
            refine NoPanic.normal ?_
            go_wp2
            go_roundw
            case rel =>
              refine ⟨_, _, _, _, _, _, _, _, _, _, _, _, _, _, _, _, _, _, ?_, rfl⟩
              exact ⟨j + 1, m' ++ [c], by omega, congrArg (Value.int IntKind.i64) (by omega), by simp; omega, by rw [← List.append_assoc, HL.out]; exact HWB, (hbd.trans ((qalloc WD _).mono (by omega))).trans hbw⟩
            case measure => simp [intOf]; omega
          · have hsh : ¬ (0 : Int) ≤ 56 - 8 * (j : Int) := by omega
            go_wp2
            go_roundw
            case rel => first | exact ⟨1, m', by omega, by go_num, by omega, HW', hbr'⟩ | exact ⟨2, m', by omega, by go_num, by omega, HW', hbr'⟩
            case measure => simp [intOf]
    · go_wp2
      go_end0
      exact ⟨rfl, ⟨m, by omega, HW.out⟩, hbr⟩
end Go.Proofs.YtidkpnabdfiilaaGreatDoor

namespace Go.Proofs.YtidkpnabdfiilaaGreatDoor
open Go.RowKit

def commitV (s : ByteArray) : Value := .agg #[.int .i64 3, .string ⟨#[]⟩, .slice none 0 0, .int .u64 1, .int .u64 1, .slice none 0 0, .string s, .int .i64 0, .string ⟨#[]⟩]
def blobV (d : ByteArray) : Value := .agg #[.int .i64 1, .string d, .slice none 0 0, .int .u64 0, .int .u64 0, .slice none 0 0, .string ⟨#[]⟩, .int .i64 0, .string ⟨#[]⟩]
theorem info64 : (Tryz.prog.info? 91).map (fun i => (i.zero, i.size, i.bytes)) = some (some (.int .u64 0), 1, 8) := by kernel_rfl
theorem run_eqDig (a b c d : Int) (w : World) : (Op.equalIn 10000 93 (.agg #[.int .u64 a, .int .u64 b]) (.agg #[.int .u64 c, .int .u64 d])).run Tryz.prog w = .ok (a == c && b == d) w := by
  have hc : Tryz.prog.cellsOf 91 = 1 := by kernel_rfl
  obtain ⟨i, hi, _⟩ := info_parts info64
  rw [run_equalIn_array w 9999 _ _ Tryz.underlying93 hi, hc]
  rw [show List.range 2 = [0, 1] from rfl]
  by_cases ha : a = c <;> by_cases hb : b = d <;> simp [Op.eqItems, go_sem, part, Tryz.isAgg91, Tryz.sizeOf91, Tryz.underlying91, ha, hb]
attribute [local go_sem] run_eqDig
set_option maxRecDepth 100000 in
set_option maxHeartbeats 1000000 in
theorem checkCommit_any (s : ByteArray) (hs : s.size ≤ 40000) (w : World) : Calls Tryz.prog 183 #[commitV s] w fun e w' => e = .returned (.int .i64 (if nameS s then 0 else 6)) ∧ Below w.heap.size w w' := by
  unfold commitV
  cases hn : nameS s <;>
  · go_enter Tryz.func183, Tryz.ntmps183
    go_wp2
    go_loop [16] (fun i => i = .int .i64 0) (fun _ => 0)
    case atStart => rfl
    case round =>
      obtain rfl := hrel
      go_wp2_with (go_at_call 123; refine (Valid_any _ _ hs).mono ?_; rintro e w' ⟨rfl, rfl⟩; rw [hn])
      go_ret
      exact ⟨rfl, qalloc _ _⟩
set_option maxRecDepth 100000 in
set_option maxHeartbeats 1000000 in
theorem ocheck_commit (s : ByteArray) (hs : s.size ≤ 40000) (w : World) : Calls Tryz.prog 156 #[commitV s] w fun e w' => e = .returned (.int .i64 (if nameS s then 0 else 6)) ∧ Below w.heap.size w w' := by
  have HC := Lib.hid (fun w => checkCommit_any s hs w)
  unfold commitV at *
  generalize (if nameS s = true then (0 : Int) else 6) = q at *
  go_enter Tryz.func156, Tryz.ntmps156
  go_wp2_with (go_at_call 183; refine (HC.out _).mono ?_; rintro e w' ⟨rfl, hb⟩)
  go_ret
  exact ⟨rfl, qtrans (qalloc _ _) hb⟩
set_option maxRecDepth 100000 in
set_option maxHeartbeats 1000000 in
theorem ocheck_blob (d : ByteArray) (w : World) : Calls Tryz.prog 156 #[blobV d] w fun e w' => e = .returned (.int .i64 0) ∧ Below w.heap.size w w' := by
  unfold blobV
  go_enter Tryz.func156, Tryz.ntmps156
  go_wp2
  go_ret
  exact ⟨rfl, qalloc _ _⟩
end Go.Proofs.YtidkpnabdfiilaaGreatDoor

namespace Go.Proofs.YtidkpnabdfiilaaGreatDoor
open Go.RowKit

theorem WB.new (w : World) : WB w.heap.size [] (w.alloc (.cells #[.slice none 0 0, .bool false] 198)) := ⟨_, CBox.new _ _ _, World.ownsRow_nil _ _ _ _⟩
theorem byteCells_at {l : List UInt8} {j : Nat} (hj : j < l.length) : (Lib.byteCells l)[j]? = some (.int .u8 (l[j].toNat : Int)) := by
  unfold Lib.byteCells
  rw [List.getElem?_map, List.getElem?_eq_getElem hj]; rfl
theorem run_text {w : World} {B : Nat} {a : Option Addr} {cap : Nat} {l : List UInt8} (h : w.ownsRow B 5 1 (.slice a l.length cap) l.length (Lib.byteCells l)) (hne : l ≠ []) :
    (convert 66 9 (.slice a l.length cap)).run Tryz.prog w = .ok (.string ⟨l.toArray⟩) w := by
  obtain ⟨_, a', cap', e, _, _, h3⟩ := owns_row h
  cases e
  obtain ⟨b, o, rfl, hb, hc⟩ := h3 (List.length_pos_iff.2 hne)
  exact run_convert_bytes_back w _ _ 5 _ cap l Tryz.underlying66 Tryz.underlying5 Tryz.underlying9 (fun j hj => by
    have := hc j _ (byteCells_at hj)
    unfold Addr.add
    split
    · rename_i h0; subst h0; simpa using this
    · exact this)
theorem intB_ne (n : Nat) : intB n ≠ [] := by
  intro e
  have := (digs_len 8 n).1
  unfold intB at e
  rw [e] at this
  simp at this
def EncPost (er : Int) (w : World) (e : Ending) (w' : World) : Prop := ∃ t : ByteArray, e = .returned (.tuple #[.string t, .int .i64 er]) ∧ Below w.heap.size w w'
set_option maxRecDepth 100000 in
set_option maxHeartbeats 1000000 in
theorem Encode_blob (d : ByteArray) (hd : d.size ≤ 40000) (w : World) : Calls Tryz.prog 124 #[blobV d] w (EncPost 0 w) := by
  have HC := Lib.hid (fun w => ocheck_blob d w)
  unfold blobV at *
  have HB := Lib.hid (CBox.new w 96 #[.int .i64 1, .string d, .slice none 0 0, .int .u64 0, .int .u64 0, .slice none 0 0, .string ⟨#[]⟩, .int .i64 0, .string ⟨#[]⟩])
  have hA := qalloc w (.cells #[.int .i64 1, .string d, .slice none 0 0, .int .u64 0, .int .u64 0, .slice none 0 0, .string ⟨#[]⟩, .int .i64 0, .string ⟨#[]⟩] 96)
  go_enter Tryz.func124, Tryz.ntmps124
  go_wp2_with (fail)
  refine (HC.out _).mono ?_
  rintro e w1 ⟨rfl, hb1⟩
  have HB1 := Lib.hid (HB.out.below hb1)
  have hbb := qtrans hA hb1
  have q0 := HB1.out.cell (i := 0) rfl
  have q1 := HB1.out.cell (i := 1) rfl
  have l1 := HB1.out.lt
  clear HB HC hb1 hA
  have HW := Lib.hid (WB.new w1)
  have hA1 := qalloc w1 (.cells #[.slice none 0 0, .bool false] 198)
  have HB2 := Lib.hid (HB1.out.below hA1)
  go_wp2_with (fail)
  refine (wnumber_any 1 (by omega) w1.heap.size [] _ HW.out (by simp)).mono ?_
  rintro e w2 ⟨rfl, h2, hb2⟩
  have H2 := Lib.hid h2
  have p0 : w2.cell? ⟨w.heap.size, 0, none⟩ = some (.int .i64 1) := (((hA1.mono (Nat.le_refl _)).trans hb2).cell (p := ⟨w.heap.size, 0, none⟩) l1).trans q0
  have p1 : w2.cell? ⟨w.heap.size, 1, none⟩ = some (.string d) := (((hA1.mono (Nat.le_refl _)).trans hb2).cell (p := ⟨w.heap.size, 1, none⟩) l1).trans q1
  have l2 : w.heap.size < w2.heap.size := by have := hb2.size; simp at this; omega
  have hb12 : Below w1.heap.size w1 w2 := hA1.trans hb2
  clear h2 hb2 HW HB2 hA1 HB1
  go_wp2_with (fail)
  refine (wstring_any d (by omega) w1.heap.size _ _ H2.out (by have := (digs_len 8 1).2; simp [intB]; omega)).mono ?_
  rintro e w3 ⟨rfl, h3, hb3⟩
  obtain ⟨v, b3, o3⟩ := h3
  have hlen : ([] ++ intB 1 ++ (intB d.size ++ d.data.toList)).length ≤ 40020 := by
    have h8 := (digs_len 8 1).2
    have h9 := (digs_len 8 d.size).2
    simp [intB] at *
    omega
  have hne : [] ++ intB 1 ++ (intB d.size ++ d.data.toList) ≠ [] := by simp [intB_ne]
  generalize [] ++ intB 1 ++ (intB d.size ++ d.data.toList) = L at *
  have r0 := b3.cell (i := 0) rfl
  have r1 := b3.cell (i := 1) rfl
  have l3 := b3.lt
  obtain ⟨va, vc, rfl⟩ := owns_val o3
  have hconv := run_text o3 hne
  clear o3 b3 H2
  go_wp2
  go_ret2
  exact ⟨_, rfl, qtrans hbb (hb12.trans hb3)⟩
set_option maxRecDepth 100000 in
set_option maxHeartbeats 2000000 in
theorem Encode_commit (s : ByteArray) (hs : s.size ≤ 40000) (w : World) : Calls Tryz.prog 124 #[commitV s] w (EncPost (if nameS s then 0 else 6) w) := by
  have HC := Lib.hid (fun w => ocheck_commit s hs w)
  unfold commitV at *
  have HB := Lib.hid (CBox.new w 96 #[.int .i64 3, .string ⟨#[]⟩, .slice none 0 0, .int .u64 1, .int .u64 1, .slice none 0 0, .string s, .int .i64 0, .string ⟨#[]⟩])
  have hA := qalloc w (.cells #[.int .i64 3, .string ⟨#[]⟩, .slice none 0 0, .int .u64 1, .int .u64 1, .slice none 0 0, .string s, .int .i64 0, .string ⟨#[]⟩] 96)
  cases hn : nameS s with
  | false =>
    rw [hn] at HC
    go_enter Tryz.func124, Tryz.ntmps124
    go_wp2_with (fail)
    refine (HC.out _).mono ?_
    rintro e w1 ⟨rfl, hb1⟩
    go_wp2
    go_ret2
    exact ⟨_, rfl, qtrans hA hb1⟩
  | true =>
    rw [hn] at HC
    have h24 : s.size ≤ 24 := by
      unfold nameS nameB at hn
      simp at hn
      omega
    clear hn
    go_enter Tryz.func124, Tryz.ntmps124
    go_wp2_with (fail)
    refine (HC.out _).mono ?_
    rintro e w1 ⟨rfl, hb1⟩
    have HB1 := Lib.hid (HB.out.below hb1)
    have hbb := qtrans hA hb1
    have q0 := HB1.out.cell (i := 0) rfl
    have l1 := HB1.out.lt
    clear HB HC hb1 hA
    have HW := Lib.hid (WB.new w1)
    have hA1 := qalloc w1 (.cells #[.slice none 0 0, .bool false] 198)
    have keep : ∀ {W : World}, Below w1.heap.size w1 W → CBox W w.heap.size 96 #[.int .i64 3, .string ⟨#[]⟩, .slice none 0 0, .int .u64 1, .int .u64 1, .slice none 0 0, .string s, .int .i64 0, .string ⟨#[]⟩] := fun hW => HB1.out.below hW
    have HK : Hid (∀ W : World, Below w1.heap.size w1 W → CBox W w.heap.size 96 #[.int .i64 3, .string ⟨#[]⟩, .slice none 0 0, .int .u64 1, .int .u64 1, .slice none 0 0, .string s, .int .i64 0, .string ⟨#[]⟩]) := fun W h => keep h
    clear keep
    go_wp2_with (fail)
    refine (wnumber_any 3 (by omega) w1.heap.size [] _ HW.out (by simp)).mono ?_
    rintro e w2 ⟨rfl, h2, hb2⟩
    have H2 := Lib.hid h2
    have hb12 : Below w1.heap.size w1 w2 := hA1.trans hb2
    have k2 := HK.out _ hb12
    have p0 := k2.cell (i := 0) rfl
    have p3 := k2.cell (i := 3) rfl
    have p4 := k2.cell (i := 4) rfl
    have l2 := k2.lt
    clear h2 hb2 HW hA1 k2 q0
    go_wp2_with (fail)
    refine (wdigest_any 1 1 (by omega) (by omega) w1.heap.size _ _ H2.out (by have := (digs_len 8 3).2; simp [intB]; omega)).mono ?_
    rintro e w3 ⟨rfl, ⟨m3, hm3, h3⟩, hb3⟩
    have H3 := Lib.hid h3
    have hb13 : Below w1.heap.size w1 w3 := hb12.trans hb3
    have k3 := HK.out _ hb13
    have p5 := k3.cell (i := 5) rfl
    have l3 := k3.lt
    clear h3 hb3 hb12 k3 p0 p3 p4 l2 H2
    have hL3 : ([] ++ intB 3 ++ m3).length ≤ 100 := by have := (digs_len 8 3).2; simp [intB] at *; omega
    have hne3 : [] ++ intB 3 ++ m3 ≠ [] := by simp [intB_ne]
    generalize [] ++ intB 3 ++ m3 = L3 at *
    go_wp2_with (fail)
    refine (wnumber_any 0 (by omega) w1.heap.size _ _ H3.out (by omega)).mono ?_
    rintro e w4 ⟨rfl, h4, hb4⟩
    have H4 := Lib.hid h4
    have hb14 : Below w1.heap.size w1 w4 := hb13.trans hb4
    have k4 := HK.out _ hb14
    have p5' := k4.cell (i := 5) rfl
    have p6 := k4.cell (i := 6) rfl
    have l4 := k4.lt
    clear h4 hb4 hb13 k4 p5 l3 H3
    have hL4 : (L3 ++ intB 0).length ≤ 200 := by have := (digs_len 8 0).2; simp [intB] at *; omega
    have hne4 : L3 ++ intB 0 ≠ [] := by simp [hne3]
    generalize L3 ++ intB 0 = L4 at *
    go_wp2_with (fail)
    go_loop [64] (fun i => i = .int .i64 0) (fun _ => 0)
    case atStart => rfl
    case round =>
      obtain rfl := hrel
      go_wp2_with (fail)
      refine (wstring_any s (by omega) w1.heap.size _ _ H4.out (by omega)).mono ?_
      rintro e w5 ⟨rfl, h5, hb5⟩
      have H5 := Lib.hid h5
      have hb15 : Below w1.heap.size w1 w5 := hb14.trans hb5
      have k5 := HK.out _ hb15
      have p7 := k5.cell (i := 7) rfl
      have l5 := k5.lt
      clear h5 hb5 hb14 k5 p5' p6 l4 H4
      have hL5 : (L4 ++ (intB s.size ++ s.data.toList)).length ≤ 300 := by have := (digs_len 8 s.size).2; simp [intB] at *; omega
      have hne5 : L4 ++ (intB s.size ++ s.data.toList) ≠ [] := by simp [hne4]
      generalize L4 ++ (intB s.size ++ s.data.toList) = L5 at *
      go_wp2_with (fail)
      refine (wnumber_any 0 (by omega) w1.heap.size _ _ H5.out (by omega)).mono ?_
      rintro e w6 ⟨rfl, h6, hb6⟩
      have H6 := Lib.hid h6
      have hb16 : Below w1.heap.size w1 w6 := hb15.trans hb6
      have k6 := HK.out _ hb16
      have p8 := k6.cell (i := 8) rfl
      have l6 := k6.lt
      clear h6 hb6 hb15 k6 p7 l5 H5
      have hL6 : (L5 ++ intB 0).length ≤ 400 := by have := (digs_len 8 0).2; simp [intB] at *; omega
      have hne6 : L5 ++ intB 0 ≠ [] := by simp [hne5]
      generalize L5 ++ intB 0 = L6 at *
      go_wp2_with (fail)
      refine (wstring_any ⟨#[]⟩ (by decide) w1.heap.size _ _ H6.out (by omega)).mono ?_
      rintro e w7 ⟨rfl, h7, hb7⟩
      obtain ⟨v, b7, o7⟩ := h7
      have hb17 : Below w1.heap.size w1 w7 := hb16.trans hb7
      have hL7 : (L6 ++ (intB (⟨#[]⟩ : ByteArray).size ++ (⟨#[]⟩ : ByteArray).data.toList)).length ≤ 500 := by have := (digs_len 8 (⟨#[]⟩ : ByteArray).size).2; simp [intB] at *; omega
      have hne7 : L6 ++ (intB (⟨#[]⟩ : ByteArray).size ++ (⟨#[]⟩ : ByteArray).data.toList) ≠ [] := by simp [hne6]
      generalize L6 ++ (intB (⟨#[]⟩ : ByteArray).size ++ (⟨#[]⟩ : ByteArray).data.toList) = L7 at *
      have r0 := b7.cell (i := 0) rfl
      have r1 := b7.cell (i := 1) rfl
      have l7 := b7.lt
      obtain ⟨va, vc, rfl⟩ := owns_val o7
      have hconv := run_text o7 hne7
      clear o7 b7 H6 hb7
      go_wp2
      go_ret2
      exact ⟨_, rfl, qtrans hbb hb17⟩
set_option maxRecDepth 100000 in
theorem oCheck_blob (d : ByteArray) (hd : d.size ≤ 40000) (w : World) : Calls Tryz.prog 80 #[blobV d] w fun e w' => e = .returned (.int .i64 0) ∧ Below w.heap.size w w' := by
  have HE := Lib.hid (fun w => Encode_blob d hd w)
  unfold blobV at *
  go_enter Tryz.func80, Tryz.ntmps80
  go_wp2_with (fail)
  refine (HE.out _).mono ?_
  rintro e w1 ⟨t, rfl, hb1⟩
  go_wp2
  go_ret
  exact ⟨rfl, qtrans (qalloc _ _) hb1⟩
set_option maxRecDepth 100000 in
theorem oCheck_commit (s : ByteArray) (hs : s.size ≤ 40000) (w : World) : Calls Tryz.prog 80 #[commitV s] w fun e w' => e = .returned (.int .i64 (if nameS s then 0 else 6)) ∧ Below w.heap.size w w' := by
  have HE := Lib.hid (fun w => Encode_commit s hs w)
  unfold commitV at *
  generalize (if nameS s = true then (0 : Int) else 6) = q at *
  go_enter Tryz.func80, Tryz.ntmps80
  go_wp2_with (fail)
  refine (HE.out _).mono ?_
  rintro e w1 ⟨t, rfl, hb1⟩
  go_wp2
  go_ret
  exact ⟨rfl, qtrans (qalloc _ _) hb1⟩
theorem isName_any (s : ByteArray) (hs : s.size ≤ 40000) (w : World) : Calls Tryz.prog 149 #[.string s] w fun e w' => e = .returned (.bool (nameS s)) ∧ Below w.heap.size w w' := by
  have HE := Lib.hid (fun w => oCheck_commit s hs w)
  unfold commitV at *
  cases hn : nameS s <;>
  · rw [hn] at HE
    go_enter Tryz.func149, Tryz.ntmps149
    go_wp2_with (go_at_call 80; refine (HE.out _).mono ?_; rintro e w1 ⟨rfl, hb1⟩)
    go_ret
    exact ⟨rfl, qtrans (qalloc _ _) hb1⟩
end Go.Proofs.YtidkpnabdfiilaaGreatDoor
