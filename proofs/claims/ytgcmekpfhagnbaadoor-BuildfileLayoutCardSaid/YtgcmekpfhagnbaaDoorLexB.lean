/- lexer.Word, for every string of up to 40000 bytes. -/
import Derived.Test.YtgcmekpfhagnbaaDoorLexA
namespace Go.Proofs.YtgcmekpfhagnbaaDoor
open Go.RowKit

theorem Word_any (s : ByteArray) (w : World) (hs : s.size ≤ 40000) :
    Calls Tryd.prog 66 #[.string s] w fun e w' => e = .returned (.bool (wordS 24 s)) ∧ Below w.heap.size w w' := by
  by_cases h1 : s.size < 1
  · have H : Hid (wordS 24 s = false) := wordN_short (by rw [sz]; exact h1)
    have he : s.toList = [] := by rw [tl]; apply List.eq_nil_of_length_eq_zero; rw [sz]; omega
    go_enter Tryd.func66, Tryd.ntmps66
    go_wp2
    go_ret
    exact ⟨ret_bool (by rw [H.out]), qrefl _⟩
  have he : s.toList.isEmpty = false := by rw [tl]; rw [List.isEmpty_eq_false_iff]; intro h; have := congrArg List.length h; rw [sz] at this; exact absurd this (by simp only [List.length_nil]; omega)
  by_cases h2 : 24 < s.size
  · have H : Hid (wordS 24 s = false) := wordN_long (by rw [sz]; omega)
    go_enter Tryd.func66, Tryd.ntmps66
    go_wp2
    go_ret
    exact ⟨ret_bool (by rw [H.out]), qrefl _⟩
  have HW : Hid (wordS 24 s = true ↔ ∀ i, i < s.size → okAt i (s.data.toList.getD i 0) = true) := by
    show _ ↔ _
    constructor
    · intro h i hi
      simp only [wordS, wordN, Bool.and_eq_true] at h
      exact (wordB_iff _).1 h.2 i (by rw [sz]; exact hi)
    · intro h; exact wordN_good (by rw [sz]; omega) (by rw [sz]; omega) (fun i hi => h i (by rw [sz] at hi; exact hi))
  have hd24 : decide (24 < (s.size : Int)) = false := by simp; omega
  go_enter Tryd.func66, Tryd.ntmps66
  go_wp2
  go_loopw [3] (fun _ wr => ∃ k : Nat, k ≤ s.size ∧ wr = w.iter s k ∧ Hid (∀ i, i < k → okAt i (s.data.toList.getD i 0) = true)) (fun _ wr => s.size - wr.iterPos w.heap.size)
  case atStart => exact ⟨0, Nat.zero_le _, rfl, fun i hi => by omega⟩
  case round =>
    obtain ⟨k, hk, rfl, HK⟩ := hrel
    by_cases hlt : k < s.size
    · have hg := getD_at s k hlt
      have step : okAt k (s.data.toList.getD k 0) = true → Hid (∀ i, i < k + 1 → okAt i (s.data.toList.getD i 0) = true) := fun h i hi => by
        by_cases e : i = k
        · rw [e]; exact h
        · exact HK.out i (by omega)
      by_cases ha : s[k].toNat < 128
      · have hnx : ∀ ty, (Instr.next (.pointer (some ⟨w.heap.size, 0, none⟩)) true ty).run Tryd.prog (w.iter s k) = _ := fun ty => run_next_ascii w s k ty hlt ha
        cases hl : isLet (s[k].toNat : Int) with
        | true =>
          have HN := step (by rw [hg]; exact okAt_let hl)
          clear hg step
          go_wp2_with (go_at_call 82; refine (letter_any _ _).mono ?_; rintro e w' ⟨rfl, rfl⟩)
          go_roundw
          case rel => exact ⟨k + 1, by omega, rfl, HN⟩
          case measure => simp; omega
        | false =>
          by_cases hk0 : k = 0
          · subst hk0
            have HF : Hid (wordS 24 s = false) := wordN_bad (i := 0) (by rw [sz]; exact hlt) (by rw [hg]; simp [okAt, hl])
            clear hg step
            go_wp2_with (go_at_call 82; refine (letter_any _ _).mono ?_; rintro e w' ⟨rfl, rfl⟩)
            go_ret
            exact ⟨ret_bool (by rw [HF.out]), qalloc _ _⟩
          · have hkb : ((k : Int) == 0) = false := by rw [beq_eq_false_iff_ne]; omega
            cases hd : isDig (s[k].toNat : Int) with
            | true =>
              have HN := step (by rw [hg]; simp [okAt, hd, hk0])
              clear hg step hk0
              go_wp2_with (first | (go_at_call 82; refine (letter_any _ _).mono ?_; rintro e w' ⟨rfl, rfl⟩) | (go_at_call 83; refine (digit_any _ _).mono ?_; rintro e w' ⟨rfl, rfl⟩))
              go_roundw
              case rel => exact ⟨k + 1, by omega, rfl, HN⟩
              case measure => simp; omega
            | false =>
              have HF : Hid (wordS 24 s = false) := wordN_bad (i := k) (by rw [sz]; exact hlt) (by rw [hg]; simp [okAt, hl, hd])
              clear hg step hk0
              go_wp2_with (first | (go_at_call 82; refine (letter_any _ _).mono ?_; rintro e w' ⟨rfl, rfl⟩) | (go_at_call 83; refine (digit_any _ _).mono ?_; rintro e w' ⟨rfl, rfl⟩))
              go_ret
              exact ⟨ret_bool (by rw [HF.out]), qalloc _ _⟩
      · have hh := decode_high s k hlt (by omega)
        have hnx : ∀ ty, (Instr.next (.pointer (some ⟨w.heap.size, 0, none⟩)) true ty).run Tryd.prog (w.iter s k) = _ := fun ty => run_next_any w s k ty hlt
        have hl : isLet (((Utf8.decode s k).1 : Nat) : Int) = false := by simp [isLet]; omega
        have hd : isDig (((Utf8.decode s k).1 : Nat) : Int) = false := by simp [isDig]; omega
        have HF : Hid (wordS 24 s = false) := wordN_bad (i := k) (by rw [sz]; exact hlt) (by rw [hg]; simp [okAt, isLet, isDig]; omega)
        clear hg step hh
        by_cases hk0 : k = 0
        · subst hk0
          go_wp2_with (go_at_call 82; refine (letter_any _ _).mono ?_; rintro e w' ⟨rfl, rfl⟩)
          go_ret
          exact ⟨ret_bool (by rw [HF.out]), qalloc _ _⟩
        · have hkb : ((k : Int) == 0) = false := by rw [beq_eq_false_iff_ne]; omega
          clear hk0
          go_wp2_with (first | (go_at_call 82; refine (letter_any _ _).mono ?_; rintro e w' ⟨rfl, rfl⟩) | (go_at_call 83; refine (digit_any _ _).mono ?_; rintro e w' ⟨rfl, rfl⟩))
          go_ret
          exact ⟨ret_bool (by rw [HF.out]), qalloc _ _⟩
    · have HT : Hid (wordS 24 s = true) := HW.out.2 (fun i hi => HK.out i (by omega))
      have hnx : ∀ ty, (Instr.next (.pointer (some ⟨w.heap.size, 0, none⟩)) true ty).run Tryd.prog (w.iter s k) = _ := fun ty => run_next_end w s k ty hlt
      go_wp2
      go_ret
      exact ⟨ret_bool (by rw [HT.out]), qalloc _ _⟩
end Go.Proofs.YtgcmekpfhagnbaaDoor
