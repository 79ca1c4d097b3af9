/- lexer.letter, lexer.digit, lexer.Word and the reference's letter, digit, word, slash, Label; the tests on reserved words. For every argument. -/
import Derived.Test.YtgcmekpfhagnbaaDoorBase
import Derived.Test.YtgcmekpfhagnbaaDoorSpec
namespace Go.Proofs.YtgcmekpfhagnbaaDoor
open Go.RowKit

theorem letter_any (c : Int) (w : World) :
    Calls Tryd.prog 82 #[.int .i32 c] w fun e w' => e = .returned (.bool (isLet c)) ∧ w = w' := by
  by_cases h1 : 97 ≤ c <;> by_cases h2 : c ≤ 122 <;>
  · go_enter Tryd.func82, Tryd.ntmps82
    go_wp2
    go_ret
    exact ⟨ret_bool (by simp [isLet, h1, h2]), rfl⟩
theorem digit_any (c : Int) (w : World) :
    Calls Tryd.prog 83 #[.int .i32 c] w fun e w' => e = .returned (.bool (isDig c)) ∧ w = w' := by
  by_cases h1 : 48 ≤ c <;> by_cases h2 : c ≤ 57 <;>
  · go_enter Tryd.func83, Tryd.ntmps83
    go_wp2
    go_ret
    exact ⟨ret_bool (by simp [isDig, h1, h2]), rfl⟩
theorem rletter_any (c : Int) (w : World) :
    Calls Tryd.prog 85 #[.int .u8 c] w fun e w' => e = .returned (.bool (isLet c)) ∧ w = w' := by
  by_cases h1 : 97 ≤ c <;> by_cases h2 : c ≤ 122 <;>
  · go_enter Tryd.func85, Tryd.ntmps85
    go_wp2
    go_ret
    exact ⟨ret_bool (by simp [isLet, h1, h2]), rfl⟩
theorem rdigit_any (c : Int) (w : World) :
    Calls Tryd.prog 86 #[.int .u8 c] w fun e w' => e = .returned (.bool (isDig c)) ∧ w = w' := by
  by_cases h1 : 48 ≤ c <;> by_cases h2 : c ≤ 57 <;>
  · go_enter Tryd.func86, Tryd.ntmps86
    go_wp2
    go_ret
    exact ⟨ret_bool (by simp [isDig, h1, h2]), rfl⟩
theorem reserved_any (s : ByteArray) (w : World) :
    Calls Tryd.prog 77 #[.string s] w fun e w' => e = .returned (.bool (reservedS s)) ∧ w = w' := by
  go_enter Tryd.func77, Tryd.ntmps77
  go_wp2
  · have h : s.toList = [100, 101, 112, 115] := by assumption
    go_ret
    exact ⟨ret_bool (by rw [tl] at h; simp [reservedS, reservedB, b_deps, h]), rfl⟩
  · go_ret
    exact ⟨ret_bool (by simp [reservedS, reservedB, b_deps, b_visible, tl]), rfl⟩
theorem rreserved_any (s : ByteArray) (w : World) :
    Calls Tryd.prog 63 #[.string s] w fun e w' => e = .returned (.bool (reservedS s)) ∧ w = w' := by
  go_enter Tryd.func63, Tryd.ntmps63
  go_wp2
  · have h : s.toList = [100, 101, 112, 115] := by assumption
    go_ret
    exact ⟨ret_bool (by rw [tl] at h; simp [reservedS, reservedB, b_deps, h]), rfl⟩
  · go_ret
    exact ⟨ret_bool (by simp [reservedS, reservedB, b_deps, b_visible, tl]), rfl⟩

/-- The reference's first slash. -/
theorem rslash20_any (s : ByteArray) (w : World) (hs : s.size ≤ 40000) :
    Calls Tryd.prog 68 #[.string s] w fun e w' => e = .returned (.int .i64 (slashS s)) ∧ w = w' := by
  go_enter Tryd.func68, Tryd.ntmps68
  go_wp2
  go_loop [3] (fun i => ∃ k : Nat, k ≤ slashS s ∧ i = .int .i64 k) (fun i => s.size - (intOf i).toNat)
  case atStart => exact ⟨0, Nat.zero_le _, rfl⟩
  case round =>
    obtain ⟨k, hk, rfl⟩ := hrel
    have hle : slashS s ≤ s.size := by rw [← sz]; exact slashAt_le _
    by_cases hlt : k < s.size
    · have hg := getD_at s k hlt
      by_cases hc : s[k] = 47
      · have hb : ((s[k].toNat : Int) != 47) = false := by rw [hc]; rfl
        have H : Hid (slashS s = k) := slashAt_at hk (by rw [sz]; exact hlt) (by rw [hg, hc])
        clear hg hc
        go_wp2
        go_ret
        exact ⟨ret_int (by rw [H.out]), rfl⟩
      · have hb : ((s[k].toNat : Int) != 47) = true := by
          rw [bne_iff_ne]; intro h; apply hc; apply UInt8.toNat_inj.1; have : s[k].toNat = 47 := by omega
          rw [this]; rfl
        have H : k + 1 ≤ slashS s := slashAt_next hk (by rw [sz]; exact hlt) (by rw [hg]; exact hc)
        clear hg hc
        go_wp2
        go_round
        case rel => exact ⟨k + 1, by omega, by go_num⟩
        case measure => simp [intOf]; omega
    · have H : Hid (slashS s = k) := by show _ = _; omega
      go_wp2
      go_ret
      exact ⟨ret_int (by rw [H.out]), rfl⟩

theorem okAt_let {i : Nat} {c : UInt8} (h : isLet (c.toNat : Int) = true) : okAt i c = true := by simp [okAt, h]
/-- The reference's word of up to n characters. -/
theorem rword_any (s : ByteArray) (n : Int) (w : World) (hs : s.size ≤ 40000) (hn : 0 ≤ n) :
    Calls Tryd.prog 69 #[.string s, .int .i64 n] w fun e w' => e = .returned (.bool (wordS n.toNat s)) ∧ w = w' := by
  by_cases h1 : s.size < 1
  · have H : Hid (wordS n.toNat s = false) := wordN_short (by rw [sz]; exact h1)
    go_enter Tryd.func69, Tryd.ntmps69
    go_wp2
    go_ret
    exact ⟨ret_bool (by rw [H.out]), rfl⟩
  by_cases h2 : n < s.size
  · have H : Hid (wordS n.toNat s = false) := wordN_long (by rw [sz]; omega)
    go_enter Tryd.func69, Tryd.ntmps69
    go_wp2
    go_ret
    exact ⟨ret_bool (by rw [H.out]), rfl⟩
  have h0 : 0 < s.size := by omega
  have hg0 := getD_at s 0 h0
  by_cases h3 : isLet (s[0].toNat : Int) = true
  · have HW : Hid (wordS n.toNat s = true ↔ ∀ i, i < s.size → okAt i (s.data.toList.getD i 0) = true) := by
      show _ ↔ _
      constructor
      · intro h i hi
        simp only [wordS, wordN, Bool.and_eq_true] at h
        exact (wordB_iff _).1 h.2 i (by rw [sz]; exact hi)
      · intro h; exact wordN_good (by rw [sz]; omega) (by rw [sz]; omega) (fun i hi => h i (by rw [sz] at hi; exact hi))
    have H0 : Hid (okAt 0 (s.data.toList.getD 0 0) = true) := by
      show _ = _
      rw [hg0]; exact okAt_let h3
    clear hg0
    go_enter Tryd.func69, Tryd.ntmps69
    go_wp2_with (go_at_call 85; refine (rletter_any _ _).mono ?_; rintro e w' ⟨rfl, rfl⟩)
    go_loop [5] (fun i => ∃ k : Nat, k ≤ s.size ∧ i = .int .i64 k ∧ Hid (∀ i, i < k → okAt i (s.data.toList.getD i 0) = true)) (fun i => s.size - (intOf i).toNat)
    case atStart => exact ⟨0, Nat.zero_le _, rfl, fun i hi => by omega⟩
    case round =>
      obtain ⟨k, hk, rfl, HK⟩ := hrel
      by_cases hlt : k < s.size
      · have hg := getD_at s k hlt
        have step : okAt k (s.data.toList.getD k 0) = true → Hid (∀ i, i < k + 1 → okAt i (s.data.toList.getD i 0) = true) := fun h i hi => by
          by_cases e : i = k
          · rw [e]; exact h
          · exact HK.out i (by omega)
        cases hl : isLet (s[k].toNat : Int) with
        | true =>
          have HN := step (by rw [hg]; exact okAt_let hl)
          clear hg step
          go_wp2_with (go_at_call 85; refine (rletter_any _ _).mono ?_; rintro e w' ⟨rfl, rfl⟩)
          go_round
          case rel => exact ⟨k + 1, by omega, by go_num, HN⟩
          case measure => simp [intOf]; omega
        | false =>
          cases hd : isDig (s[k].toNat : Int) with
          | true =>
            have hk0 : k ≠ 0 := by intro e; subst e; rw [hl] at h3; cases h3
            have HN := step (by rw [hg]; simp [okAt, hd, hk0])
            clear hg step hk0
            go_wp2_with (first | (go_at_call 85; refine (rletter_any _ _).mono ?_; rintro e w' ⟨rfl, rfl⟩) | (go_at_call 86; refine (rdigit_any _ _).mono ?_; rintro e w' ⟨rfl, rfl⟩))
            go_round
            case rel => exact ⟨k + 1, by omega, by go_num, HN⟩
            case measure => simp [intOf]; omega
          | false =>
            have HF : Hid (wordS n.toNat s = false) := wordN_bad (i := k) (by rw [sz]; exact hlt) (by rw [hg]; simp [okAt, hd, hl])
            clear hg step
            go_wp2_with (first | (go_at_call 85; refine (rletter_any _ _).mono ?_; rintro e w' ⟨rfl, rfl⟩) | (go_at_call 86; refine (rdigit_any _ _).mono ?_; rintro e w' ⟨rfl, rfl⟩))
            go_ret
            exact ⟨ret_bool (by rw [HF.out]), rfl⟩
      · have HT : Hid (wordS n.toNat s = true) := HW.out.2 (fun i hi => HK.out i (by omega))
        go_wp2
        go_ret
        exact ⟨ret_bool (by rw [HT.out]), rfl⟩
  · have hl : isLet (s[0].toNat : Int) = false := by simpa using h3
    have HF : Hid (wordS n.toNat s = false) := wordN_bad (i := 0) (by rw [sz]; exact h0) (by rw [hg0]; simp [okAt, hl])
    clear hg0 h3
    go_enter Tryd.func69, Tryd.ntmps69
    go_wp2_with (go_at_call 85; refine (rletter_any _ _).mono ?_; rintro e w' ⟨rfl, rfl⟩)
    go_ret
    exact ⟨ret_bool (by rw [HF.out]), rfl⟩
end Go.Proofs.YtgcmekpfhagnbaaDoor
