/- The reference's Words. -/
import Derived.Test.YtgcmekpfhagnbaaDoorPsB
namespace Go.Proofs.YtgcmekpfhagnbaaDoor
open Go.RowKit

theorem infoWord2 : (Tryd.prog.info? 61).map (fun i => (i.zero, i.size, i.bytes)) = some (some (.agg #[.string ⟨#[]⟩, .int .i64 0]), 2, 24) := by kernel_rfl
set_option maxRecDepth 100000 in
set_option maxHeartbeats 2000000 in
theorem rWords_any (s : ByteArray) (hs : s.size ≤ 40000) (w : World) :
    Calls Tryd.prog 32 #[.string s] w fun e w' => ∃ v, e = .returned v ∧ IsWords w' v (wordsOf s) ∧ (∀ b, v.ownBlock = some b → ∃ cur m, w'.heap[b]? = some (.cells cur 61 m)) ∧ Below w.heap.size w w' := by
  have hlen := wordsOf_length s
  obtain ⟨i0, hi, hz0, hz1, hz2⟩ := info_parts infoWord2
  go_enter Tryd.func32, Tryd.ntmps32
  go_wp2
  go_loopw [3, 4] (fun ov iv wr => ∃ (pre : Words) (f i : Nat), i ≤ s.size ∧ s.size ≤ i + f ∧ iv = .int .i64 i ∧ wr.ownsRow w.heap.size 61 2 ov pre.length (wordCells pre) ∧ Below w.heap.size w wr ∧ Hid (wordsOf s = pre ++ toks s f i))
    (fun _ iv _ => s.size - (intOf iv).toNat)
  case atStart => exact ⟨[], s.size, 0, Nat.zero_le _, by omega, rfl, ⟨rfl, .inr ⟨w.heap.size, 0, #[], rfl, Nat.le_refl _, World.alloc_heap_new _ _, Nat.le_refl _, Nat.zero_le _, rfl, rfl⟩⟩, qalloc _ _, rfl⟩
  case round =>
    obtain ⟨pre, f, i, hil, hf, rfl, hown, hbel, HD⟩ := hrel
    by_cases hlt : i < s.size
    · obtain ⟨f, rfl⟩ : ∃ f', f = f' + 1 := ⟨f - 1, by omega⟩
      have HS := Lib.hid (toks_at s f hlt)
      have hpl : pre.length ≤ 40000 := by
        have := congrArg List.length HD.out
        rw [List.length_append] at this
        omega
      cases h32 : (s[i] == 32) with
      | true =>
        have t32 : ((s[i].toNat : Int) == 32) = true := (byteN _ 32).trans h32
        have HD2 : Hid (wordsOf s = pre ++ toks s f (i + 1)) := by
          show _ = _; rw [HD.out, HS.out, isSp, h32]; rfl
        clear h32
        go_wp2
        go_roundw
        case rel => exact ⟨pre, f, i + 1, by omega, by omega, by go_num, hown, hbel, HD2⟩
        case measure => simp [intOf]; omega
      | false =>
        have t32 : ((s[i].toNat : Int) == 32) = false := (byteN _ 32).trans h32
        cases h10 : (s[i] == 10) with
        | true =>
          have t10 : ((s[i].toNat : Int) == 10) = true := (byteN _ 10).trans h10
          have HD2 : Hid (wordsOf s = pre ++ toks s f (i + 1)) := by
            show _ = _; rw [HD.out, HS.out, isSp, h10]; simp
          clear h32 h10
          go_wp2
          go_roundw
          case rel => exact ⟨pre, f, i + 1, by omega, by omega, by go_num, hown, hbel, HD2⟩
          case measure => simp [intOf]; omega
        | false =>
          have t10 : ((s[i].toNat : Int) == 10) = false := (byteN _ 10).trans h10
          cases h35 : (s[i] == 35) with
          | true =>
            have t35 : ((s[i].toNat : Int) == 35) = true := (byteN _ 35).trans h35
            have HD2 : Hid (wordsOf s = pre ++ toks s f (stopAt isNl s.data.toList i)) := by
              show _ = _; rw [HD.out, HS.out, isSp, h10, h32, if_neg (by simp), if_pos (by simpa using h35)]
            have hst : i + 1 ≤ stopAt isNl s.data.toList i := stopAt_next (stopAt_ge _ _ _) (by rw [sz]; exact hlt) (by rw [getD_at s i hlt]; exact h10)
            have hsl : stopAt isNl s.data.toList i ≤ s.size := by rw [← sz]; exact stopAt_le _ (by rw [sz]; omega)
            clear h32 h10 h35
            go_wp2
            go_loop [4] (fun v => ∃ m : Nat, i ≤ m ∧ m ≤ stopAt isNl s.data.toList i ∧ v = .int .i64 m) (fun v => s.size - (intOf v).toNat)
            case atStart => exact ⟨i, Nat.le_refl _, by omega, rfl⟩
            case round =>
              obtain ⟨m, hm1, hm2, rfl⟩ := hrel
              by_cases hms : m < s.size
              · have hgm := getD_at s m hms
                cases hnl : (s[m] == 10) with
                | true =>
                  have tn : ((s[m].toNat : Int) != 10) = false := byteNeT (d := 10) hnl
                  have HM : Hid (stopAt isNl s.data.toList i = m) := stopAt_here hm1 hm2 (by rw [sz]; exact hms) (by rw [hgm]; exact hnl)
                  clear hgm hnl
                  go_wp2
                  go_roundw
                  case rel => exact ⟨pre, f, m, by omega, by have := HM.out; omega, rfl, hown, hbel, by rw [← HM.out]; exact HD2⟩
                  case measure => have := HM.out; simp [intOf]; omega
                | false =>
                  have tn : ((s[m].toNat : Int) != 10) = true := byteNeT (d := 10) hnl
                  have HM : m + 1 ≤ stopAt isNl s.data.toList i := stopAt_next hm2 (by rw [sz]; exact hms) (by rw [hgm]; exact hnl)
                  clear hgm hnl
                  go_wp2
                  go_round
                  case rel => exact ⟨m + 1, by omega, by omega, by go_num⟩
                  case measure => simp [intOf]; omega
              · have HM : Hid (stopAt isNl s.data.toList i = m) := by show _ = _; omega
                go_wp2
                go_roundw
                case rel => exact ⟨pre, f, m, by omega, by have := HM.out; omega, rfl, hown, hbel, by rw [← HM.out]; exact HD2⟩
                case measure => have := HM.out; simp [intOf]; omega
          | false =>
            have t35 : ((s[i].toNat : Int) == 35) = false := (byteN _ 35).trans h35
            have HD2 := Lib.hid (HD.out.trans (congrArg (pre ++ ·) (HS.out.trans (by rw [isSp, h32, h10, if_neg (by simp), if_neg (by simpa using h35)]))))
            have hst : i + 1 ≤ stopAt isSp s.data.toList i := stopAt_next (stopAt_ge _ _ _) (by rw [sz]; exact hlt) (by rw [getD_at s i hlt, isSp, h10, h32]; rfl)
            have hsl : stopAt isSp s.data.toList i ≤ s.size := by rw [← sz]; exact stopAt_le _ (by rw [sz]; omega)
            clear h32 h10 h35
            go_wp2
            go_loop [4] (fun v => ∃ m : Nat, i ≤ m ∧ m ≤ stopAt isSp s.data.toList i ∧ v = .int .i64 m) (fun v => s.size - (intOf v).toNat)
            case atStart => exact ⟨i, Nat.le_refl _, by omega, rfl⟩
            case round =>
              obtain ⟨m, hm1, hm2, rfl⟩ := hrel
              by_cases hstop : stopAt isSp s.data.toList i = m
              · have tests : (¬ m < s.size) ∨ (∃ h : m < s.size, ((s[m].toNat : Int) != 32) = false) ∨ (∃ h : m < s.size, ((s[m].toNat : Int) != 32) = true ∧ ((s[m].toNat : Int) != 10) = false) := by
                  by_cases hms : m < s.size
                  · right
                    have hsp : isSp (s.data.toList.getD m 0) = true := by
                      cases hq : isSp (s.data.toList.getD m 0) with
                      | true => rfl
                      | false => have := stopAt_next hm2 (by rw [sz]; exact hms) hq; omega
                    rw [getD_at s m hms, isSp] at hsp
                    cases a32 : (s[m] == 32) with
                    | true => exact .inl ⟨hms, byteNeT (d := 32) a32⟩
                    | false =>
                      rw [a32] at hsp
                      exact .inr ⟨hms, byteNeT (d := 32) a32, byteNeT (d := 10) hsp⟩
                  · exact .inl hms
                have HN : Hid (wordsOf s = (pre ++ [(s.extract i m, i)]) ++ toks s f m) := by
                  show _ = _; rw [HD2.out, hstop]; simp
                have hml : i + 1 ≤ m := by omega
                have hml2 : m ≤ s.size := by omega
                have hbz := hbel.size
                clear hstop hst hsl hm2
                rcases tests with hms | ⟨hms, q1⟩ | ⟨hms, q1, q2⟩ <;>
                · go_wp2_with (at_builtin; refine wpList_append_own _ rfl _ _ 54 rfl w.heap.size 61 i0 _ 2 24 Tryd.underlying54 hi hz0 hz1 hz2 rfl (by decide) _ _ _ rfl (hown.alloc _) ⟨wr.heap.size, 0, none⟩ 1 1 [.string (s.extract i m), .int .i64 i] rfl rfl (cell_two _ _ _ _) (by simp [Value.oneCell']) (by unfold maxLen; omega) (by omega) (by simp; omega) ?_)
                  intro v' w3 hown3 hg3 _
                  have hb3 : Below w.heap.size w w3 := (qtrans hbel (qalloc wr _)).grown hg3 (by simp; omega) (fun k hk => owns_block hown hk)
                  clear hg3 hown
                  go_wp2
                  go_roundw
                  case rel => exact ⟨pre ++ [(s.extract i m, i)], f, m, hml2, by omega, rfl, by rw [wordCells_snoc, List.length_append]; exact hown3, hb3, HN⟩
                  case measure => simp [intOf]; omega
              · have hms : m < s.size := by omega
                have hsp : isSp (s.data.toList.getD m 0) = false := by
                  cases hq : isSp (s.data.toList.getD m 0) with
                  | false => rfl
                  | true => exact absurd (stopAt_here hm1 hm2 (by rw [sz]; exact hms) hq) hstop
                rw [getD_at s m hms, isSp, Bool.or_eq_false_iff] at hsp
                have q1 : ((s[m].toNat : Int) != 32) = true := byteNeT (d := 32) hsp.1
                have q2 : ((s[m].toNat : Int) != 10) = true := byteNeT (d := 10) hsp.2
                have HM : m + 1 ≤ stopAt isSp s.data.toList i := by omega
                clear hsp hstop
                go_wp2
                go_round
                case rel => exact ⟨m + 1, by omega, by omega, by go_num⟩
                case measure => simp [intOf]; omega
    · have HL : Hid (wordsOf s = pre) := by
        show _ = _
        rw [HD.out, toks_end s f hlt, List.append_nil]
      go_wp2
      go_ret
      rw [HL.out]
      exact ⟨_, rfl, owns_row hown, owns_type hown, hbel⟩
end Go.Proofs.YtgcmekpfhagnbaaDoor
