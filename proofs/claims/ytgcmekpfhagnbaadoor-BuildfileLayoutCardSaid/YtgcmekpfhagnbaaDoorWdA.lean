/- buildfile.words: the iterator over the words of a text. -/
import Derived.Test.YtgcmekpfhagnbaaDoorRF
import Derived.Test.YtgcmekpfhagnbaaDoorTok
import Derived.Test.YtgcmekpfhagnbaaDoorLexD
namespace Go.Proofs.YtgcmekpfhagnbaaDoor
open Go.RowKit Go.Shelf
attribute [local go_sem] Oper.semAt_some

def wordArg (x : ByteArray × Nat) : Array Value := #[.agg #[.string x.1, .int .i64 x.2]]
def wordArgs (s : ByteArray) : List (Array Value) := (wordsOf s).map wordArg

theorem toks_at (s : ByteArray) (f : Nat) {i : Nat} (h : i < s.size) : toks s (f + 1) i =
    if isSp s[i] then toks s f (i + 1) else if s[i] = 35 then toks s f (stopAt isNl s.data.toList i)
    else (s.extract i (stopAt isSp s.data.toList i), i) :: toks s f (stopAt isSp s.data.toList i) := by
  rw [toks, if_pos h, getD_at s i h]
set_option maxHeartbeats 2000000 in
theorem words1_iter (s : ByteArray) (hs : s.size ≤ 40000) (w : World) (Bs n₀ : Nat) (hn : n₀ ≤ w.heap.size) (b1 : Bs < n₀) (c1 : w.cell? ⟨Bs, 0, none⟩ = some (.string s)) :
    Iter Fence.wide 4 Tryd.prog 53 #[.pointer (some ⟨Bs, 0, none⟩)] (wordArgs s) n₀ (fun _ _ => False) w := by
  intro l J Jx W hW _ _ hY h0
  have d1 : W.cell? ⟨Bs, 0, none⟩ = some (.string s) := (hW.cell (p := ⟨Bs, 0, none⟩) (by show Bs < _; omega)).trans c1
  clear c1 hW
  have HY := Lib.hid hY
  clear hY
  show CallsIn Fence.wide 4 Tryd.prog 53 #[.func (.yield l) #[] #[], .pointer (some ⟨Bs, 0, none⟩)] W _
  refine callsIn_of_wp Tryd.func53 rfl trivial ?_ rfl
  simp only [Tryd.ntmps53, List.size_toArray, List.length_cons, List.length_nil, Nat.reduceAdd, Nat.reduceSub, Array.replicate_succ, Array.replicate_zero, List.push_toArray, List.append_toArray, List.nil_append, List.cons_append]
  gi_wp2
  gi_loopw [3] (fun i wr => ∃ (k f at' : Nat), k ≤ (wordArgs s).length ∧ at' ≤ s.size ∧ s.size ≤ at' + f ∧ i = .int .i64 at' ∧ wr.cell? ⟨Bs, 0, none⟩ = some (.string s) ∧ Hid ((wordArgs s).drop k = (toks s f at').map wordArg) ∧ J k wr)
    (fun i _ => s.size - (intOf i).toNat)
  case atStart => exact ⟨0, s.size, 0, Nat.zero_le _, Nat.zero_le _, by omega, rfl, d1, rfl, h0⟩
  case round =>
    obtain ⟨k, f, i, hkl, hi, hf, rfl, e1, HD, hJk⟩ := hrel
    clear d1 h0
    by_cases hlt : i < s.size
    · have hg := getD_at s i hlt
      obtain ⟨f, rfl⟩ : ∃ f', f = f' + 1 := ⟨f - 1, by omega⟩
      have HS := Lib.hid (toks_at s f hlt)
      clear hg
      cases h32 : (s[i] == 32) with
      | true =>
        have t32 : ((s[i].toNat : Int) == 32) = true := (byteN _ 32).trans h32
        have HD2 : Hid ((wordArgs s).drop k = (toks s f (i + 1)).map wordArg) := by
          show _ = _; rw [HD.out, HS.out, isSp, h32]; rfl
        clear h32
        gi_wp2
        go_roundw
        case rel => exact ⟨k, f, i + 1, hkl, by omega, by omega, by go_num, e1, HD2, hJk⟩
        case measure => simp [intOf]; omega
      | false =>
        have t32 : ((s[i].toNat : Int) == 32) = false := (byteN _ 32).trans h32
        cases h10 : (s[i] == 10) with
        | true =>
          have t10 : ((s[i].toNat : Int) == 10) = true := (byteN _ 10).trans h10
          have HD2 : Hid ((wordArgs s).drop k = (toks s f (i + 1)).map wordArg) := by
            show _ = _; rw [HD.out, HS.out, isSp, h10]; simp
          clear h32 h10
          gi_wp2
          go_roundw
          case rel => exact ⟨k, f, i + 1, hkl, by omega, by omega, by go_num, e1, HD2, hJk⟩
          case measure => simp [intOf]; omega
        | false =>
          have t10 : ((s[i].toNat : Int) == 10) = false := (byteN _ 10).trans h10
          cases h35 : (s[i] == 35) with
          | true =>
            have t35 : ((s[i].toNat : Int) == 35) = true := (byteN _ 35).trans h35
            have HD2 : Hid ((wordArgs s).drop k = (toks s f (stopAt isNl s.data.toList i)).map wordArg) := by
              show _ = _; rw [HD.out, HS.out, isSp, h10, h32, if_neg (by simp), if_pos (by simpa using h35)]
            have hst : i + 1 ≤ stopAt isNl s.data.toList i := stopAt_next (stopAt_ge _ _ _) (by rw [sz]; exact hlt) (by rw [getD_at s i hlt]; exact h10)
            have hsl : stopAt isNl s.data.toList i ≤ s.size := by rw [← sz]; exact stopAt_le _ (by rw [sz]; omega)
            clear h32 h10 h35
            gi_wp2
            gi_loop [3] (fun v => ∃ m : Nat, i ≤ m ∧ m ≤ stopAt isNl s.data.toList i ∧ v = .int .i64 m) (fun v => s.size - (intOf v).toNat)
            case atStart => exact ⟨i, Nat.le_refl _, by omega, rfl⟩
            case round =>
              obtain ⟨m, hm1, hm2, rfl⟩ := hrel
              by_cases hms : m < s.size
              · have hgm := getD_at s m hms
                cases hnl : (s[m] == 10) with
                | true =>
                  have tn : ((s[m].toNat : Int) != 10) = false := byteNeT (d := 10) hnl
                  have HM : Hid (stopAt isNl s.data.toList i = m) := stopAt_here hm1 hm2 (by rw [sz]; exact hms) (by rw [hgm]; exact hnl)
                  clear hgm hnl
                  gi_wp2
                  go_roundw
                  case rel => exact ⟨k, f, m, hkl, by omega, by have := HM.out; omega, rfl, e1, by rw [← HM.out]; exact HD2, hJk⟩
                  case measure => have := HM.out; simp [intOf]; omega
                | false =>
                  have tn : ((s[m].toNat : Int) != 10) = true := byteNeT (d := 10) hnl
                  have HM : m + 1 ≤ stopAt isNl s.data.toList i := stopAt_next hm2 (by rw [sz]; exact hms) (by rw [hgm]; exact hnl)
                  clear hgm hnl
                  gi_wp2
                  go_round
                  case rel => exact ⟨m + 1, by omega, by omega, by go_num⟩
                  case measure => simp [intOf]; omega
              · have HM : Hid (stopAt isNl s.data.toList i = m) := by show _ = _; omega
                gi_wp2
                go_roundw
                case rel => exact ⟨k, f, m, hkl, by omega, by have := HM.out; omega, rfl, e1, by rw [← HM.out]; exact HD2, hJk⟩
                case measure => have := HM.out; simp [intOf]; omega
          | false =>
            have t35 : ((s[i].toNat : Int) == 35) = false := (byteN _ 35).trans h35
            have HD2 := Lib.hid (HD.out.trans (congrArg (List.map wordArg) (HS.out.trans (by rw [isSp, h32, h10, if_neg (by simp), if_neg (by simpa using h35)]))))
            have hst : i + 1 ≤ stopAt isSp s.data.toList i := stopAt_next (stopAt_ge _ _ _) (by rw [sz]; exact hlt) (by rw [getD_at s i hlt, isSp, h10, h32]; rfl)
            have hsl : stopAt isSp s.data.toList i ≤ s.size := by rw [← sz]; exact stopAt_le _ (by rw [sz]; omega)
            clear h32 h10 h35
            obtain ⟨hk, ha, hd⟩ := drop_cons HD2.out
            have HD3 := Lib.hid hd
            clear hd HD2 HD HS
            have hy := HY.out k hk wr hJk
            rw [ha] at hy
            clear ha
            gi_wp2
            gi_loop [4] (fun v => ∃ m : Nat, i ≤ m ∧ m ≤ stopAt isSp s.data.toList i ∧ v = .int .i64 m) (fun v => s.size - (intOf v).toNat)
            case atStart => exact ⟨i, Nat.le_refl _, by omega, rfl⟩
            case round =>
              obtain ⟨m, hm1, hm2, rfl⟩ := hrel
              by_cases hstop : stopAt isSp s.data.toList i = m
              · rw [hstop] at hy HD3
                have tests : (¬ m < s.size) ∨ (∃ h : m < s.size, ((s[m].toNat : Int) != 32) = false) ∨ (∃ h : m < s.size, ((s[m].toNat : Int) != 32) = true ∧ ((s[m].toNat : Int) != 10) = false) := by
                  by_cases hms : m < s.size
                  · right
                    have hsp : isSp (s.data.toList.getD m 0) = true := by
                      cases hq : isSp (s.data.toList.getD m 0) with
                      | true => rfl
                      | false => have := stopAt_next hm2 (by rw [sz]; exact hms) hq; omega
                    rw [getD_at s m hms, isSp] at hsp
                    cases a32 : (s[m] == 32) with
                    | true => exact .inl ⟨hms, byteNeT (d := 32) a32⟩
                    | false =>
                      rw [a32] at hsp
                      exact .inr ⟨hms, byteNeT (d := 32) a32, byteNeT (d := 10) hsp⟩
                  · exact .inl hms
                have HM := Lib.hid hstop
                have hml : i + 1 ≤ m := by omega
                have hml2 : m ≤ s.size := by omega
                clear hstop hst hsl hm2
                obtain ⟨fn, tmps, assign, body, hy, hR⟩ := hy
                simp only [wordArg] at hy
                rcases tests with hms | ⟨hms, q1⟩ | ⟨hms, q1, q2⟩ <;>
                · gi_wp2
                  refine hR.mono ?_
                  rintro e W3 (⟨rfl, hJ3, hk3⟩ | ⟨rfl, hJx3⟩)
                  · have e1' : W3.cell? ⟨Bs, 0, none⟩ = some (.string s) := (hk3.cell (p := ⟨Bs, 0, none⟩) b1).trans e1
                    clear hR hy
                    gi_wp2
                    go_roundw
                    case rel => exact ⟨k + 1, f, m, by omega, hml2, by omega, rfl, e1', HD3, hJ3⟩
                    case measure => simp [intOf]; omega
                  · gi_wp2
                    refine bodyPost_ret (results_none rfl _ _ _) rfl ?_
                    exact ⟨⟨_, rfl⟩, .inr ⟨k + 1, by omega, hJx3⟩⟩
              · have hms : m < s.size := by omega
                have hsp : isSp (s.data.toList.getD m 0) = false := by
                  cases hq : isSp (s.data.toList.getD m 0) with
                  | false => rfl
                  | true => exact absurd (stopAt_here hm1 hm2 (by rw [sz]; exact hms) hq) hstop
                rw [getD_at s m hms, isSp, Bool.or_eq_false_iff] at hsp
                have q1 : ((s[m].toNat : Int) != 32) = true := byteNeT (d := 32) hsp.1
                have q2 : ((s[m].toNat : Int) != 10) = true := byteNeT (d := 10) hsp.2
                have HM : m + 1 ≤ stopAt isSp s.data.toList i := by omega
                clear hsp hstop hy
                gi_wp2
                go_round
                case rel => exact ⟨m + 1, by omega, by omega, by go_num⟩
                case measure => simp [intOf]; omega
    · have HL : Hid (k = (wordArgs s).length) := by
        have := HD.out
        rw [toks_end s f hlt] at this
        exact Nat.le_antisymm hkl (List.drop_eq_nil_iff.1 this)
      gi_wp2
      go_end0
      exact ⟨⟨_, rfl⟩, .inl (by rw [← HL.out]; exact hJk)⟩
end Go.Proofs.YtgcmekpfhagnbaaDoor
