/- syntax.name, checkNumbers; the reference's Reserved, Name, ranged of chapter 21. -/
import Derived.Test.YtlcpdhionefmbaaGreatDoorTA
namespace Go.Proofs.YtlcpdhionefmbaaGreatDoor
open Go.RowKit

theorem bytes_of {s : ByteArray} {l : List UInt8} (h : s.data.toList = l) : s = ⟨l.toArray⟩ := by
  subst h; rfl
theorem resB_cases {s : ByteArray} (h : resB s = true) : ∃ l ∈ resL, s = ⟨l.toArray⟩ := by
  unfold resB at h
  obtain ⟨l, hl, he⟩ := List.any_eq_true.1 h
  exact ⟨l, hl, bytes_of (by simpa using he)⟩
theorem resB_false {s : ByteArray} (h : resB s = false) : ∀ l ∈ resL, (s.toList == l) = false := by
  intro l hl
  unfold resB at h
  have := List.any_eq_false.1 h l hl
  rw [tl]; simpa using this
theorem nmS_res {s : ByteArray} (h : resB s = true) : nmS s = false := by rw [nmS, h]; simp
set_option maxRecDepth 100000 in
set_option maxHeartbeats 2000000 in
theorem name_any (s : ByteArray) (w : World) (hs : s.size ≤ 40000) : Calls Tryz.prog 102 #[.string s] w fun e w' => e = .returned (.bool (nmS s)) ∧ Below w.heap.size w w' := by
  cases hr : resB s with
  | true =>
    have HN := Lib.hid (nmS_res hr)
    obtain ⟨l, hl, rfl⟩ := resB_cases hr
    clear hr hs
    simp only [resL, List.mem_cons, List.not_mem_nil, or_false] at hl
    rcases hl with rfl | rfl | rfl | rfl | rfl | rfl | rfl | rfl | rfl | rfl | rfl | rfl | rfl | rfl | rfl | rfl | rfl
    all_goals
      go_enter Tryz.func102, Tryz.ntmps102
      go_wp2
      go_ret
      exact ⟨ret_bool (by rw [HN.out]), qrefl _⟩
  | false =>
    have HN : Hid (nmS s = wordS 24 s) := by show _ = _; rw [nmS, hr]; simp
    have hf := resB_false hr
    clear hr
    have q0 := hf [99, 97, 115, 101] (by simp [resL])
    have q1 := hf [99, 104, 97, 110, 99, 101] (by simp [resL])
    have q2 := hf [99, 111, 110, 102, 108, 105, 99, 116] (by simp [resL])
    have q3 := hf [101, 108, 115, 101] (by simp [resL])
    have q4 := hf [102, 97, 108, 115, 101] (by simp [resL])
    have q5 := hf [102, 108, 97, 107, 121] (by simp [resL])
    have q6 := hf [102, 117, 110] (by simp [resL])
    have q7 := hf [105, 102] (by simp [resL])
    have q8 := hf [105, 110] (by simp [resL])
    have q9 := hf [108, 101, 116] (by simp [resL])
    have q10 := hf [110, 105, 108] (by simp [resL])
    have q11 := hf [111, 102] (by simp [resL])
    have q12 := hf [112, 117, 98] (by simp [resL])
    have q13 := hf [116, 101, 115, 116] (by simp [resL])
    have q14 := hf [116, 104, 101, 110] (by simp [resL])
    have q15 := hf [116, 114, 117, 101] (by simp [resL])
    have q16 := hf [117, 115, 101] (by simp [resL])
    clear hf
    go_enter Tryz.func102, Tryz.ntmps102
    go_wp2_with (go_at_call 63; refine (Word_any s _ hs).mono ?_; rintro e w' ⟨rfl, hb⟩)
    go_ret
    exact ⟨ret_bool (by rw [HN.out]), hb⟩
/-! The reference's. -/
def resStrs : List ByteArray := resL.map fun l => ⟨l.toArray⟩
theorem memS_res (s : ByteArray) : memS s resStrs = resB s := by
  unfold memS resStrs resB
  rw [List.any_map]; rfl
set_option maxRecDepth 100000 in
theorem Reserved_any (w : World) : Calls Tryz.prog 116 #[] w fun e w' => ∃ v, e = .returned v ∧ Strs w' v resStrs ∧ Below w.heap.size w w' := by
  go_enter Tryz.func116, Tryz.ntmps116
  go_wp2
  go_ret
  refine ⟨_, rfl, ?_, qalloc _ _⟩
  refine ⟨rfl, _, 17, rfl, Nat.le_refl _, by unfold maxLen; omega, fun _ => ⟨w.heap.size, 0, rfl, by simp, fun j u hj => ?_⟩⟩
  have := (CBox.new w 9 (resStrs.map Value.string).toArray).cell (i := j) (v := u) (by simpa using hj)
  rw [Nat.zero_add]
  exact this
theorem rWord_any (s : ByteArray) (w : World) (hs : s.size ≤ 40000) : Calls Tryz.prog 114 #[.string s] w fun e w' => e = .returned (.bool (wordS 24 s)) ∧ Below w.heap.size w w' := by
  go_enter Tryz.func114, Tryz.ntmps114
  go_wp2_with (go_at_call 92; refine (rword_any s 24 _ hs (by decide)).mono ?_; rintro e w' ⟨rfl, rfl⟩)
  go_ret
  exact ⟨rfl, qrefl _⟩
theorem rName_any (s : ByteArray) (w : World) (hs : s.size ≤ 40000) : Calls Tryz.prog 93 #[.string s] w fun e w' => e = .returned (.bool (nmS s)) ∧ Below w.heap.size w w' := by
  have HW := Lib.hid (fun w => rWord_any s w hs)
  have HN : Hid (nmS s = (wordS 24 s && !(resB s))) := rfl
  cases hw : wordS 24 s with
  | false =>
    rw [hw] at HW
    go_enter Tryz.func93, Tryz.ntmps93
    go_wp2_with (fail)
    refine (HW.out _).mono ?_
    rintro e w1 ⟨rfl, hb1⟩
    go_wp2
    go_ret
    exact ⟨ret_bool (by rw [HN.out, hw]; rfl), hb1⟩
  | true =>
    rw [hw] at HW
    have HR := Lib.hid (memS_res s)
    have hl : resStrs.length ≤ 40000 := by decide
    go_enter Tryz.func93, Tryz.ntmps93
    go_wp2_with (fail)
    refine (HW.out _).mono ?_
    rintro e w1 ⟨rfl, hb1⟩
    go_wp2_with (fail)
    refine (Reserved_any _).mono ?_
    rintro e w2 ⟨v, rfl, hv, hb2⟩
    have HV := Lib.hid hv
    clear hv
    go_wp2_with (fail)
    refine (rHas_any _ s resStrs _ HV.out hl).mono ?_
    rintro e w3 ⟨rfl, rfl⟩
    rw [HR.out]
    go_wp2
    go_ret
    exact ⟨ret_bool (by rw [HN.out, hw]; rfl), qtrans hb1 hb2⟩
/-! Numbers. -/
def numsR (k i d : Int) : Bool :=
  if k = 1 then decide (-999999999 ≤ i) && decide (i ≤ 999999999) else if k = 2 then i == 0 || i == 1
  else if k = 5 then decide (1 ≤ i) && decide (i ≤ 999999) else if k = 14 then decide (1 ≤ d) && decide (d ≤ 999999) && decide (0 ≤ i) && decide (i ≤ d) else true
def numsE (k i d : Int) : Int := if numsR k i d then 0 else 2
theorem numsOk_eq (x : Ex) : numsOk x = numsR x.kind x.num x.den := rfl
set_option maxRecDepth 100000 in
set_option maxHeartbeats 2000000 in
theorem checkNumbers_any (k i d : Int) (n m : ByteArray) (sv : Value) (w : World) :
    Calls Tryz.prog 107 #[.agg #[.int .i64 k, .string n, .string m, .int .i64 i, .int .i64 d, sv]] w fun e w' => e = .returned (.int .i64 (numsE k i d)) ∧ Below w.heap.size w w' := by
  by_cases k1 : k = 1
  · subst k1
    by_cases h0 : -999999999 ≤ i
    · skip
      by_cases h1 : i ≤ 999999999
      · skip
        have HN : Hid (numsE 1 i d = 0) := by show _ = _; simp [numsE, numsR, h0, h1]
        go_enter Tryz.func107, Tryz.ntmps107
        go_wp2
        go_ret
        exact ⟨ret_int (by rw [HN.out]), qalloc _ _⟩
      · skip
        have HN : Hid (numsE 1 i d = 2) := by show _ = _; simp [numsE, numsR, h0, h1]
        go_enter Tryz.func107, Tryz.ntmps107
        go_wp2
        go_ret
        exact ⟨ret_int (by rw [HN.out]), qalloc _ _⟩
    · skip
      have HN : Hid (numsE 1 i d = 2) := by show _ = _; simp [numsE, numsR, h0]
      go_enter Tryz.func107, Tryz.ntmps107
      go_wp2
      go_ret
      exact ⟨ret_int (by rw [HN.out]), qalloc _ _⟩
  by_cases k2 : k = 2
  · subst k2
    by_cases h0 : i = 0
    · skip
      have HN : Hid (numsE 2 i d = 0) := by show _ = _; simp [numsE, numsR, h0]
      have g0 : (i == 0) = true := by simp [h0]
      go_enter Tryz.func107, Tryz.ntmps107
      go_wp2
      go_ret
      exact ⟨ret_int (by rw [HN.out]), qalloc _ _⟩
    · skip
      by_cases h1 : i = 1
      · skip
        have HN : Hid (numsE 2 i d = 0) := by show _ = _; simp [numsE, numsR, h1]
        have g0 : (i == 0) = false := by simp [h0]
        have g1 : (i == 1) = true := by simp [h1]
        go_enter Tryz.func107, Tryz.ntmps107
        go_wp2
        go_ret
        exact ⟨ret_int (by rw [HN.out]), qalloc _ _⟩
      · skip
        have HN : Hid (numsE 2 i d = 2) := by show _ = _; simp [numsE, numsR, h0, h1]
        have g0 : (i == 0) = false := by simp [h0]
        have g1 : (i == 1) = false := by simp [h1]
        go_enter Tryz.func107, Tryz.ntmps107
        go_wp2
        go_ret
        exact ⟨ret_int (by rw [HN.out]), qalloc _ _⟩
  by_cases k5 : k = 5
  · subst k5
    by_cases h0 : 1 ≤ i
    · skip
      by_cases h1 : i ≤ 999999
      · skip
        have HN : Hid (numsE 5 i d = 0) := by show _ = _; simp [numsE, numsR, h0, h1]
        go_enter Tryz.func107, Tryz.ntmps107
        go_wp2
        go_ret
        exact ⟨ret_int (by rw [HN.out]), qalloc _ _⟩
      · skip
        have HN : Hid (numsE 5 i d = 2) := by show _ = _; simp [numsE, numsR, h0, h1]
        go_enter Tryz.func107, Tryz.ntmps107
        go_wp2
        go_ret
        exact ⟨ret_int (by rw [HN.out]), qalloc _ _⟩
    · skip
      have HN : Hid (numsE 5 i d = 2) := by show _ = _; simp [numsE, numsR, h0]
      go_enter Tryz.func107, Tryz.ntmps107
      go_wp2
      go_ret
      exact ⟨ret_int (by rw [HN.out]), qalloc _ _⟩
  by_cases k14 : k = 14
  · subst k14
    by_cases h0 : 1 ≤ d
    · skip
      by_cases h1 : d ≤ 999999
      · skip
        by_cases h2 : 0 ≤ i
        · skip
          by_cases h3 : i ≤ d
          · skip
            have HN : Hid (numsE 14 i d = 0) := by show _ = _; simp [numsE, numsR, h0, h1, h2, h3]
            go_enter Tryz.func107, Tryz.ntmps107
            go_wp2
            go_ret
            exact ⟨ret_int (by rw [HN.out]), qalloc _ _⟩
          · skip
            have HN : Hid (numsE 14 i d = 2) := by show _ = _; simp [numsE, numsR, h0, h1, h2, h3]
            go_enter Tryz.func107, Tryz.ntmps107
            go_wp2
            go_ret
            exact ⟨ret_int (by rw [HN.out]), qalloc _ _⟩
        · skip
          have HN : Hid (numsE 14 i d = 2) := by show _ = _; simp [numsE, numsR, h0, h1, h2]
          go_enter Tryz.func107, Tryz.ntmps107
          go_wp2
          go_ret
          exact ⟨ret_int (by rw [HN.out]), qalloc _ _⟩
      · skip
        have HN : Hid (numsE 14 i d = 2) := by show _ = _; simp [numsE, numsR, h0, h1]
        go_enter Tryz.func107, Tryz.ntmps107
        go_wp2
        go_ret
        exact ⟨ret_int (by rw [HN.out]), qalloc _ _⟩
    · skip
      have HN : Hid (numsE 14 i d = 2) := by show _ = _; simp [numsE, numsR, h0]
      go_enter Tryz.func107, Tryz.ntmps107
      go_wp2
      go_ret
      exact ⟨ret_int (by rw [HN.out]), qalloc _ _⟩
  have HN : Hid (numsE k i d = 0) := by show _ = _; simp [numsE, numsR, k1, k2, k5, k14]
  have q1 : (k == 1) = false := by simp [k1]
  have q2 : (k == 2) = false := by simp [k2]
  have q5 : (k == 5) = false := by simp [k5]
  have q14 : (k == 14) = false := by simp [k14]
  clear k1 k2 k5 k14
  go_enter Tryz.func107, Tryz.ntmps107
  go_wp2
  go_ret
  exact ⟨ret_int (by rw [HN.out]), qalloc _ _⟩
set_option maxRecDepth 100000 in
set_option maxHeartbeats 2000000 in
theorem ranged_any (k i d : Int) (n m : ByteArray) (sv : Value) (w : World) :
    Calls Tryz.prog 149 #[.agg #[.int .i64 k, .string n, .string m, .int .i64 i, .int .i64 d, sv]] w fun e w' => e = .returned (.bool (numsR k i d)) ∧ Below w.heap.size w w' := by
  by_cases k1 : k = 1
  · subst k1
    by_cases h0 : -999999999 ≤ i
    · skip
      by_cases h1 : i ≤ 999999999
      · skip
        have HN : Hid (numsR 1 i d = true) := by show _ = _; simp [numsR, h0, h1]
        go_enter Tryz.func149, Tryz.ntmps149
        go_wp2
        go_ret
        exact ⟨ret_bool (by rw [HN.out]), qalloc _ _⟩
      · skip
        have HN : Hid (numsR 1 i d = false) := by show _ = _; simp [numsR, h0, h1]
        go_enter Tryz.func149, Tryz.ntmps149
        go_wp2
        go_ret
        exact ⟨ret_bool (by rw [HN.out]), qalloc _ _⟩
    · skip
      have HN : Hid (numsR 1 i d = false) := by show _ = _; simp [numsR, h0]
      go_enter Tryz.func149, Tryz.ntmps149
      go_wp2
      go_ret
      exact ⟨ret_bool (by rw [HN.out]), qalloc _ _⟩
  by_cases k2 : k = 2
  · subst k2
    by_cases h0 : i = 0
    · skip
      have HN : Hid (numsR 2 i d = true) := by show _ = _; simp [numsR, h0]
      have g0 : (i == 0) = true := by simp [h0]
      go_enter Tryz.func149, Tryz.ntmps149
      go_wp2
      go_ret
      exact ⟨ret_bool (by rw [HN.out]), qalloc _ _⟩
    · skip
      by_cases h1 : i = 1
      · skip
        have HN : Hid (numsR 2 i d = true) := by show _ = _; simp [numsR, h1]
        have g0 : (i == 0) = false := by simp [h0]
        have g1 : (i == 1) = true := by simp [h1]
        go_enter Tryz.func149, Tryz.ntmps149
        go_wp2
        go_ret
        exact ⟨ret_bool (by rw [HN.out]), qalloc _ _⟩
      · skip
        have HN : Hid (numsR 2 i d = false) := by show _ = _; simp [numsR, h0, h1]
        have g0 : (i == 0) = false := by simp [h0]
        have g1 : (i == 1) = false := by simp [h1]
        go_enter Tryz.func149, Tryz.ntmps149
        go_wp2
        go_ret
        exact ⟨ret_bool (by rw [HN.out]), qalloc _ _⟩
  by_cases k5 : k = 5
  · subst k5
    by_cases h0 : 1 ≤ i
    · skip
      by_cases h1 : i ≤ 999999
      · skip
        have HN : Hid (numsR 5 i d = true) := by show _ = _; simp [numsR, h0, h1]
        go_enter Tryz.func149, Tryz.ntmps149
        go_wp2
        go_ret
        exact ⟨ret_bool (by rw [HN.out]), qalloc _ _⟩
      · skip
        have HN : Hid (numsR 5 i d = false) := by show _ = _; simp [numsR, h0, h1]
        go_enter Tryz.func149, Tryz.ntmps149
        go_wp2
        go_ret
        exact ⟨ret_bool (by rw [HN.out]), qalloc _ _⟩
    · skip
      have HN : Hid (numsR 5 i d = false) := by show _ = _; simp [numsR, h0]
      go_enter Tryz.func149, Tryz.ntmps149
      go_wp2
      go_ret
      exact ⟨ret_bool (by rw [HN.out]), qalloc _ _⟩
  by_cases k14 : k = 14
  · subst k14
    by_cases h0 : 1 ≤ d
    · skip
      by_cases h1 : d ≤ 999999
      · skip
        by_cases h2 : 0 ≤ i
        · skip
          by_cases h3 : i ≤ d
          · skip
            have HN : Hid (numsR 14 i d = true) := by show _ = _; simp [numsR, h0, h1, h2, h3]
            go_enter Tryz.func149, Tryz.ntmps149
            go_wp2
            go_ret
            exact ⟨ret_bool (by rw [HN.out]), qalloc _ _⟩
          · skip
            have HN : Hid (numsR 14 i d = false) := by show _ = _; simp [numsR, h0, h1, h2, h3]
            go_enter Tryz.func149, Tryz.ntmps149
            go_wp2
            go_ret
            exact ⟨ret_bool (by rw [HN.out]), qalloc _ _⟩
        · skip
          have HN : Hid (numsR 14 i d = false) := by show _ = _; simp [numsR, h0, h1, h2]
          go_enter Tryz.func149, Tryz.ntmps149
          go_wp2
          go_ret
          exact ⟨ret_bool (by rw [HN.out]), qalloc _ _⟩
      · skip
        have HN : Hid (numsR 14 i d = false) := by show _ = _; simp [numsR, h0, h1]
        go_enter Tryz.func149, Tryz.ntmps149
        go_wp2
        go_ret
        exact ⟨ret_bool (by rw [HN.out]), qalloc _ _⟩
    · skip
      have HN : Hid (numsR 14 i d = false) := by show _ = _; simp [numsR, h0]
      go_enter Tryz.func149, Tryz.ntmps149
      go_wp2
      go_ret
      exact ⟨ret_bool (by rw [HN.out]), qalloc _ _⟩
  have HN : Hid (numsR k i d = true) := by show _ = _; simp [numsR, k1, k2, k5, k14]
  have q1 : (k == 1) = false := by simp [k1]
  have q2 : (k == 2) = false := by simp [k2]
  have q5 : (k == 5) = false := by simp [k5]
  have q14 : (k == 14) = false := by simp [k14]
  clear k1 k2 k5 k14
  go_enter Tryz.func149, Tryz.ntmps149
  go_wp2
  go_ret
  exact ⟨ret_bool (by rw [HN.out]), qalloc _ _⟩
end Go.Proofs.YtlcpdhionefmbaaGreatDoor
