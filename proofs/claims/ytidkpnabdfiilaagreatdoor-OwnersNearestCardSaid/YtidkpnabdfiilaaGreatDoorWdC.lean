/- owners.words: the iterator over the words of a text. -/
import Derived.Test.YtidkpnabdfiilaaGreatDoorQ03
import Derived.Test.YtidkpnabdfiilaaGreatDoorQ01
import Derived.Test.YtidkpnabdfiilaaGreatDoorQ09
import Derived.Test.YtidkpnabdfiilaaGreatDoorQ06
import Derived.Laws.EntriesVeiled
namespace Go.Proofs.YtidkpnabdfiilaaGreatDoor
open Go.RowKit Go.Shelf
attribute [local go_sem] Oper.semAt_some

/-- Two blocks are as they were. -/
def keepTwo (a b : Nat) (A B : World) : Prop := B.heap[a]? = A.heap[a]? ∧ B.heap[b]? = A.heap[b]?
def drewAb (A B : World) : Prop := ∃ n, B = A.drewN n
theorem words1_is (c : UInt8) (b : Bool) (hb : Hid (isSp c = b)) (w : World) : Calls Tryz.prog 114 #[.int .u8 (c.toNat : Int)] w fun e w' => e = .returned (.bool b) ∧ w' = w := by
  have H : Hid (isSp c = (((c.toNat : Int) == 32) || ((c.toNat : Int) == 10))) := by
    show _ = _
    rw [isSp, show (c == 32) = ((c.toNat : Int) == 32) from (byteN c 32).symm, show (c == 10) = ((c.toNat : Int) == 10) from (byteN c 10).symm]
  cases h : ((c.toNat : Int) == 32) <;>
  · rw [h] at H
    go_enter Tryz.func114, Tryz.ntmps114
    go_wp2
    go_ret
    exact ⟨ret_bool (by rw [← hb.out, H.out]; simp), rfl⟩
set_option maxHeartbeats 2000000 in
theorem words2_iter (s : ByteArray) (hs : s.size ≤ 40000) (w : World) (Bs Bf : Nat) (c1 : w.cell? ⟨Bs, 0, none⟩ = some (.string s)) (c2 : w.cell? ⟨Bf, 0, none⟩ = some (.func (.func 114) #[] #[])) :
    IterK Fence.wide 4 Tryz.prog 115 #[.pointer (some ⟨Bs, 0, none⟩), .pointer (some ⟨Bf, 0, none⟩)] (wordArgs s) (keepTwo Bs Bf) drewAb w := by
  intro l J Jx W hW hJ hJx hY h0
  have d1 : W.cell? ⟨Bs, 0, none⟩ = some (.string s) := (hW.cell (p := ⟨Bs, 0, none⟩) (lt_of_cell c1)).trans c1
  have d2 : W.cell? ⟨Bf, 0, none⟩ = some (.func (.func 114) #[] #[]) := (hW.cell (p := ⟨Bf, 0, none⟩) (lt_of_cell c2)).trans c2
  clear c1 c2 hW
  have HY := Lib.hid hY
  have HJ := Lib.hid hJ
  clear hY hJ hJx
  show CallsIn Fence.wide 4 Tryz.prog 115 #[.func (.yield l) #[] #[], .pointer (some ⟨Bs, 0, none⟩), .pointer (some ⟨Bf, 0, none⟩)] W _
  refine callsIn_of_wp Tryz.func115 rfl trivial ?_ rfl
  simp only [Tryz.ntmps115, List.size_toArray, List.length_cons, List.length_nil, Nat.reduceAdd, Nat.reduceSub, Array.replicate_succ, Array.replicate_zero, List.push_toArray, List.append_toArray, List.nil_append, List.cons_append]
  gi_wp2
  gi_loopw [4] (fun i wr => ∃ (k f at' : Nat), k ≤ (wordArgs s).length ∧ at' ≤ s.size ∧ s.size ≤ at' + f ∧ i = .int .i64 at' ∧ wr.cell? ⟨Bs, 0, none⟩ = some (.string s) ∧ wr.cell? ⟨Bf, 0, none⟩ = some (.func (.func 114) #[] #[]) ∧ Hid ((wordArgs s).drop k = (toks s f at').map wordArg) ∧ J k wr)
    (fun i _ => s.size - (intOf i).toNat)
  case atStart => exact ⟨0, s.size, 0, Nat.zero_le _, Nat.zero_le _, by omega, rfl, d1, d2, rfl, h0⟩
  case round =>
    obtain ⟨k, f, i, hkl, hi, hf, rfl, e1, e2, HD, hJk⟩ := hrel
    clear d1 d2 h0
    by_cases hlt : i < s.size
    · obtain ⟨f, rfl⟩ : ∃ f', f = f' + 1 := ⟨f - 1, by omega⟩
      have HS := Lib.hid (toks_at s f hlt)
      have hi0 : (0 : Int) ≤ (i : Int) := by omega
      have hi1 : (i : Int) < (s.size : Int) := by omega
      cases hsp : isSp s[i] with
      | true =>
        have HD2 : Hid ((wordArgs s).drop k = (toks s f (i + 1)).map wordArg) := by
          show _ = _; rw [HD.out, HS.out, hsp]; rfl
        have HSP := Lib.hid hsp
        clear hsp HS HD
        gi_wp2
        refine wpIn_wide.2 ?_
        go_quiet ((go_at_call 114; exact Calls.quiet_of_same (words1_is _ true HSP _)))
        have hJd := HJ.out _ _ _ hJk ⟨nq, rfl⟩
        gi_wp2
        go_roundw
        case rel => exact ⟨k, f, i + 1, hkl, by omega, by omega, by go_num, e1, e2, HD2, hJd⟩
        case measure => simp [intOf]; omega
      | false =>
        have HSP := Lib.hid hsp
        cases h35 : (s[i] == 35) with
        | true =>
          have t35 : ((s[i].toNat : Int) == 35) = true := (byteN _ 35).trans h35
          have HD2 : Hid ((wordArgs s).drop k = (toks s f (stopAt isNl s.data.toList i)).map wordArg) := by
            show _ = _; rw [HD.out, HS.out, hsp, if_neg (by simp), if_pos (by simpa using h35)]
          have h10 : (s[i] == 10) = false := by
            have := hsp; rw [isSp, Bool.or_eq_false_iff] at this; exact this.2
          have hst : i + 1 ≤ stopAt isNl s.data.toList i := stopAt_next (stopAt_ge _ _ _) (by rw [sz]; exact hlt) (by rw [getD_at s i hlt]; exact h10)
          have hsl : stopAt isNl s.data.toList i ≤ s.size := by rw [← sz]; exact stopAt_le _ (by rw [sz]; omega)
          clear hsp h10 h35 HS HD
          gi_wp2
          refine wpIn_wide.2 ?_
          go_quiet ((go_at_call 114; exact Calls.quiet_of_same (words1_is _ false HSP _)))
          have hJd := HJ.out _ _ _ hJk ⟨nq, rfl⟩
          gi_wp2
          gi_loop [4] (fun v => ∃ m : Nat, i ≤ m ∧ m ≤ stopAt isNl s.data.toList i ∧ v = .int .i64 m) (fun v => s.size - (intOf v).toNat)
          case atStart => exact ⟨i, Nat.le_refl _, by omega, rfl⟩
          case round =>
            obtain ⟨m, hm1, hm2, rfl⟩ := hrel
            by_cases hms : m < s.size
            · have hgm := getD_at s m hms
              cases hnl : (s[m] == 10) with
              | true =>
                have tn : ((s[m].toNat : Int) != 10) = false := byteNeT (d := 10) hnl
                have HM : Hid (stopAt isNl s.data.toList i = m) := stopAt_here hm1 hm2 (by rw [sz]; exact hms) (by rw [hgm]; exact hnl)
                clear hgm hnl
                gi_wp2
                go_roundw
                case rel => exact ⟨k, f, m, hkl, by omega, by have := HM.out; omega, rfl, e1, e2, by rw [← HM.out]; exact HD2, hJd⟩
                case measure => have := HM.out; simp [intOf]; omega
              | false =>
                have tn : ((s[m].toNat : Int) != 10) = true := byteNeT (d := 10) hnl
                have HM : m + 1 ≤ stopAt isNl s.data.toList i := stopAt_next hm2 (by rw [sz]; exact hms) (by rw [hgm]; exact hnl)
                clear hgm hnl
                gi_wp2
                go_round
                case rel => exact ⟨m + 1, by omega, by omega, by go_num⟩
                case measure => simp [intOf]; omega
            · have HM : Hid (stopAt isNl s.data.toList i = m) := by show _ = _; omega
              gi_wp2
              go_roundw
              case rel => exact ⟨k, f, m, hkl, by omega, by have := HM.out; omega, rfl, e1, e2, by rw [← HM.out]; exact HD2, hJd⟩
              case measure => have := HM.out; simp [intOf]; omega
        | false =>
          have t35 : ((s[i].toNat : Int) == 35) = false := (byteN _ 35).trans h35
          have HD2 := Lib.hid (HD.out.trans (congrArg (List.map wordArg) (HS.out.trans (by rw [hsp, if_neg (by simp), if_neg (by simpa using h35)]))))
          have hst : i + 1 ≤ stopAt isSp s.data.toList i := stopAt_next (stopAt_ge _ _ _) (by rw [sz]; exact hlt) (by rw [getD_at s i hlt]; exact hsp)
          have hsl : stopAt isSp s.data.toList i ≤ s.size := by rw [← sz]; exact stopAt_le _ (by rw [sz]; omega)
          clear hsp h35 HS HD
          obtain ⟨hk, ha, hd⟩ := drop_cons HD2.out
          have HA := Lib.hid ha
          have HD3 := Lib.hid hd
          clear hd HD2 ha
          gi_wp2
          refine wpIn_wide.2 ?_
          go_quiet ((go_at_call 114; exact Calls.quiet_of_same (words1_is _ false HSP _)))
          have hJd := HJ.out _ _ _ hJk ⟨nq, rfl⟩
          generalize hWO : wr.drewN nq = wo at *
          have e1' : wo.cell? ⟨Bs, 0, none⟩ = some (.string s) := by rw [← hWO]; exact e1
          have e2' : wo.cell? ⟨Bf, 0, none⟩ = some (.func (.func 114) #[] #[]) := by rw [← hWO]; exact e2
          clear hWO e1 e2 hJk
          generalize wr = wr0 at *
          gi_wp2
          gi_loopw [4] (fun v wr => ∃ m : Nat, i ≤ m ∧ m ≤ stopAt isSp s.data.toList i ∧ v = .int .i64 m ∧ wr.cell? ⟨Bs, 0, none⟩ = some (.string s) ∧ wr.cell? ⟨Bf, 0, none⟩ = some (.func (.func 114) #[] #[]) ∧ J k wr) (fun v _ => s.size - (intOf v).toNat)
          case atStart => exact ⟨i, Nat.le_refl _, by omega, rfl, e1', e2', hJd⟩
          case round =>
            obtain ⟨m, hm1, hm2, rfl, e1, e2, hJk⟩ := hrel
            clear e1' e2' hJd HSP
            have hm0 : (0 : Int) ≤ (m : Int) := by omega
            by_cases hstop : stopAt isSp s.data.toList i = m
            · have tests : (¬ m < s.size) ∨ (∃ h : m < s.size, isSp s[m] = true) := by
                by_cases hms : m < s.size
                · right
                  refine ⟨hms, ?_⟩
                  cases hq : isSp (s.data.toList.getD m 0) with
                  | true => rw [getD_at s m hms] at hq; exact hq
                  | false => have := stopAt_next hm2 (by rw [sz]; exact hms) hq; omega
                · exact .inl hms
              have HM := Lib.hid hstop
              have hml : i + 1 ≤ m := by omega
              have hml2 : m ≤ s.size := by omega
              have HA2 : Hid ((wordArgs s)[k] = wordArg (s.extract i m, i)) := by show _ = _; rw [HA.out, HM.out]
              have HD4 : Hid ((wordArgs s).drop (k + 1) = (toks s f m).map wordArg) := by show _ = _; rw [HD3.out, HM.out]
              clear hstop hst hsl hm2 HA HD3
              rcases tests with hms | ⟨hms, q1⟩
              · have hdm : decide ((m : Int) < (s.size : Int)) = false := by simp; omega
                gi_wp2
                refine wpIn_wide.2 ?_
                go_quiet (fail)
                have hJd := HJ.out _ _ _ hJk ⟨nq, rfl⟩
                generalize hWO : wr.drewN nq = wd at *
                have e1' : wd.cell? ⟨Bs, 0, none⟩ = some (.string s) := by rw [← hWO]; exact e1
                have e2' : wd.cell? ⟨Bf, 0, none⟩ = some (.func (.func 114) #[] #[]) := by rw [← hWO]; exact e2
                have hy := HY.out k hk wd hJd
                rw [HA2.out] at hy
                clear hWO e1 e2 hJk
                obtain ⟨fn, tmps, assign, body, hy, hR⟩ := hy
                simp only [wordArg] at hy
                gi_wp2
                refine hR.mono ?_
                rintro e W3 (⟨rfl, hJ3, hk3⟩ | ⟨rfl, hJx3⟩)
                · have e1'' : W3.cell? ⟨Bs, 0, none⟩ = some (.string s) := (World.cell?_of_block (a := ⟨Bs, 0, none⟩) hk3.1).trans e1'
                  have e2'' : W3.cell? ⟨Bf, 0, none⟩ = some (.func (.func 114) #[] #[]) := (World.cell?_of_block (a := ⟨Bf, 0, none⟩) hk3.2).trans e2'
                  clear hR hy
                  gi_wp2
                  go_roundw
                  case rel => exact ⟨k + 1, f, m, by omega, hml2, by omega, rfl, e1'', e2'', HD4, hJ3⟩
                  case measure => simp [intOf]; omega
                · gi_wp2
                  refine bodyPost_ret (results_none rfl _ _ _) rfl ?_
                  exact ⟨⟨_, rfl⟩, .inr ⟨k + 1, by omega, hJx3⟩⟩
              · have HSM := Lib.hid q1
                have hm1' : (m : Int) < (s.size : Int) := by omega
                have hdm : decide ((m : Int) < (s.size : Int)) = true := by simp; omega
                clear q1
                gi_wp2
                refine wpIn_wide.2 ?_
                go_quiet ((go_at_call 114; exact Calls.quiet_of_same (words1_is _ true HSM _)))
                have hJd := HJ.out _ _ _ hJk ⟨nq, rfl⟩
                generalize hWO : wr.drewN nq = wd at *
                have e1' : wd.cell? ⟨Bs, 0, none⟩ = some (.string s) := by rw [← hWO]; exact e1
                have e2' : wd.cell? ⟨Bf, 0, none⟩ = some (.func (.func 114) #[] #[]) := by rw [← hWO]; exact e2
                have hy := HY.out k hk wd hJd
                rw [HA2.out] at hy
                clear hWO e1 e2 hJk
                obtain ⟨fn, tmps, assign, body, hy, hR⟩ := hy
                simp only [wordArg] at hy
                gi_wp2
                refine hR.mono ?_
                rintro e W3 (⟨rfl, hJ3, hk3⟩ | ⟨rfl, hJx3⟩)
                · have e1'' : W3.cell? ⟨Bs, 0, none⟩ = some (.string s) := (World.cell?_of_block (a := ⟨Bs, 0, none⟩) hk3.1).trans e1'
                  have e2'' : W3.cell? ⟨Bf, 0, none⟩ = some (.func (.func 114) #[] #[]) := (World.cell?_of_block (a := ⟨Bf, 0, none⟩) hk3.2).trans e2'
                  clear hR hy
                  gi_wp2
                  go_roundw
                  case rel => exact ⟨k + 1, f, m, by omega, hml2, by omega, rfl, e1'', e2'', HD4, hJ3⟩
                  case measure => simp [intOf]; omega
                · gi_wp2
                  refine bodyPost_ret (results_none rfl _ _ _) rfl ?_
                  exact ⟨⟨_, rfl⟩, .inr ⟨k + 1, by omega, hJx3⟩⟩
            · have hms : m < s.size := by omega
              have hsp : isSp (s.data.toList.getD m 0) = false := by
                cases hq : isSp (s.data.toList.getD m 0) with
                | false => rfl
                | true => exact absurd (stopAt_here hm1 hm2 (by rw [sz]; exact hms) hq) hstop
              rw [getD_at s m hms] at hsp
              have HSM := Lib.hid hsp
              have HM : m + 1 ≤ stopAt isSp s.data.toList i := by omega
              have hm1' : (m : Int) < (s.size : Int) := by omega
              have hdm : decide ((m : Int) < (s.size : Int)) = true := by simp; omega
              clear hsp hstop
              gi_wp2
              refine wpIn_wide.2 ?_
              go_quiet ((go_at_call 114; exact Calls.quiet_of_same (words1_is _ false HSM _)))
              have hJd := HJ.out _ _ _ hJk ⟨nq, rfl⟩
              gi_wp2
              go_roundw
              case rel => exact ⟨m + 1, by omega, by omega, by go_num, e1, e2, hJd⟩
              case measure => simp [intOf]; omega
    · have HL : Hid (k = (wordArgs s).length) := by
        have := HD.out
        rw [toks_end s f hlt] at this
        exact Nat.le_antisymm hkl (List.drop_eq_nil_iff.1 this)
      gi_wp2
      go_end0
      exact ⟨⟨_, rfl⟩, .inl (by rw [← HL.out]; exact hJk)⟩
theorem words_any (s : ByteArray) (w : World) : Calls Tryz.prog 73 #[.string s] w fun e w' =>
    e = .returned (.func (.func 115) #[] #[.pointer (some ⟨w.heap.size, 0, none⟩), .pointer (some ⟨w.heap.size + 1, 0, none⟩)]) ∧
    (w.alloc (.cells #[.string s] 9)).alloc (.cells #[.func (.func 114) #[] #[]] 164) = w' := by
  go_enter Tryz.func73, Tryz.ntmps73
  go_wp2
  go_ret
  exact ⟨rfl, rfl⟩
end Go.Proofs.YtidkpnabdfiilaaGreatDoor
