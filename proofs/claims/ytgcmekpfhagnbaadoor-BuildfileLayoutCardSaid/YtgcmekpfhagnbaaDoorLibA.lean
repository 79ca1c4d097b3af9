/- strings.Index, Contains, LastIndexByte, CutSuffix at the slash, for strings of up to 40000 bytes. -/
import Derived.Test.YtgcmekpfhagnbaaDoorBase
import Derived.Test.YtgcmekpfhagnbaaDoorSpec
import Derived.Lib.Bytealg
namespace Go.Proofs.YtgcmekpfhagnbaaDoor
open Go.RowKit

def idxS (s : ByteArray) : Int := if slashS s < s.size then slashS s else -1

theorem indexByte_eq (l : List UInt8) : Lib.indexByte l 47 = if slashAt l < l.length then (slashAt l : Int) else -1 := by
  induction l with
  | nil => rfl
  | cons c r ih =>
    unfold Lib.indexByte
    unfold slashAt at ih ⊢
    rw [List.findIdx_cons, ih]
    by_cases hc : c = 47
    · simp [hc]
    · have hb : (c == 47) = false := by simp [hc]
      rw [hb]
      have : List.findIdx (fun x => x == 47) r ≤ r.length := List.findIdx_le_length
      by_cases h : List.findIdx (fun x => x == 47) r < r.length
      · rw [if_pos h]; simp only [cond_false, Bool.false_eq_true, if_false, List.length_cons]
        rw [if_neg (by simp), if_pos (by omega)]; omega
      · rw [if_neg h]; simp [h]
theorem idxS_eq (s : ByteArray) : Lib.indexByte s.data.toList 47 = idxS s := by
  rw [indexByte_eq, idxS, sz]; rfl
theorem run_idx (s : ByteArray) (w : World) :
    (callFunc 105 #[.string s, .int .u8 47]).run Tryd.prog w = .ok (.value (.int .i64 (idxS s))) w := by
  rw [run_callFunc_indexByte (fn := Tryd.f105) Tryd.func105 (by kernel_rfl) (by kernel_rfl) (by kernel_rfl) (by kernel_rfl), Lib.run_indexByteString]
  show Result.ok (Next.value (.int .i64 (Lib.indexByte s.data.toList 47))) w = _
  rw [idxS_eq]

set_option maxRecDepth 100000 in
theorem Index_slash (s : ByteArray) (w : World) :
    Calls Tryd.prog 84 #[.string s, .string ⟨#[47]⟩] w fun e w' => e = .returned (.int .i64 (idxS s)) ∧ w = w' := by
  have hrun := run_idx
  have e47 : ((⟨#[47]⟩ : ByteArray)[0]'(by decide)).toNat = 47 := rfl
  by_cases h : s.toList = [47]
  · have H : Hid (idxS s = 0) := by
      show _ = _
      rw [tl] at h
      rw [← idxS_eq, h]; rfl
    go_enter Tryd.func84, Tryd.ntmps84
    go_wp2
    go_ret
    exact ⟨ret_int (by rw [H.out]), rfl⟩
  · have h' : ([47] == s.toList) = false := by rw [beq_eq_false_iff_ne]; exact fun e => h e.symm
    go_enter Tryd.func84, Tryd.ntmps84
    go_wp2
    go_ret
    exact ⟨rfl, rfl⟩
theorem Contains_slash (s : ByteArray) (w : World) :
    Calls Tryd.prog 67 #[.string s, .string ⟨#[47]⟩] w fun e w' => e = .returned (.bool (decide (slashS s < s.size))) ∧ w = w' := by
  by_cases h : slashS s < s.size
  · have H : 0 ≤ idxS s := by unfold idxS; rw [if_pos h]; omega
    go_enter Tryd.func67, Tryd.ntmps67
    go_wp2_with (go_at_call 84; refine (Index_slash _ _).mono ?_; rintro e w' ⟨rfl, rfl⟩)
    go_ret
    exact ⟨ret_bool (by simp [h]), rfl⟩
  · have H : idxS s < 0 := by unfold idxS; rw [if_neg h]; omega
    go_enter Tryd.func67, Tryd.ntmps67
    go_wp2_with (go_at_call 84; refine (Index_slash _ _).mono ?_; rintro e w' ⟨rfl, rfl⟩)
    go_ret
    exact ⟨ret_bool (by simp [h]; omega), rfl⟩

theorem byteb (c : UInt8) : ((c.toNat : Int) == 47) = decide (c = 47) := by
  rw [Bool.eq_iff_iff, beq_iff_eq, decide_eq_true_eq, ← UInt8.toNat_inj]
  show _ ↔ c.toNat = 47
  omega
theorem LastIndexByte_slash (s : ByteArray) (w : World) (hs : s.size ≤ 40000) :
    Calls Tryd.prog 39 #[.string s, .int .u8 47] w fun e w' => e = .returned (.int .i64 (lastSlS s)) ∧ w = w' := by
  go_enter Tryd.func39, Tryd.ntmps39
  go_wp2
  go_loop [5] (fun i => ∃ k : Nat, k ≤ s.size ∧ i = .int .i64 ((k : Int) - 1) ∧ Hid (lastSlS s = lastSlFrom s.data.toList k)) (fun i => (intOf i + 1).toNat)
  case atStart => exact ⟨s.size, Nat.le_refl _, rfl, rfl⟩
  case round =>
    obtain ⟨k, hk, rfl, HK⟩ := hrel
    cases k with
    | zero =>
      go_wp2
      go_ret
      exact ⟨ret_int (by rw [HK.out]; rfl), rfl⟩
    | succ k =>
      have hlt : k < s.size := by omega
      have ek : (((k + 1 : Nat) : Int) - 1) = (k : Int) := by omega
      rw [ek]
      clear ek
      have hg := getD_at s k hlt
      by_cases hc : s[k] = 47
      · have hb : ((s[k].toNat : Int) == 47) = true := by rw [byteb]; simp [hc]
        have HF : Hid (lastSlS s = k) := by show _ = _; rw [HK.out, lastSlFrom, if_pos (by rw [hg, hc])]
        clear hg hc
        go_wp2
        go_ret
        exact ⟨ret_int (by rw [HF.out]), rfl⟩
      · have hb : ((s[k].toNat : Int) == 47) = false := by rw [byteb]; simp [hc]
        have HF : Hid (lastSlS s = lastSlFrom s.data.toList k) := by show _ = _; rw [HK.out, lastSlFrom, if_neg (by rw [hg]; exact hc)]
        clear hg hc
        go_wp2
        go_round
        case rel => exact ⟨k, by omega, rfl, HF⟩
        case measure => simp [intOf]
theorem ends_beq (s : ByteArray) (h : 1 ≤ s.size) : ((s.extract (s.size - 1) s.size).toList == [47]) = endsS s := by
  rw [tl, ex_end, endsS]
  have hne : s.data.toList ≠ [] := by intro e; have := congrArg List.length e; rw [sz] at this; exact absurd this (by simp only [List.length_nil]; omega)
  rw [← sz]
  generalize s.data.toList = l at *
  obtain ⟨L, b, rfl⟩ : ∃ L b, l = L ++ [b] := by
    rcases List.eq_nil_or_concat l with h' | ⟨L, b, h'⟩
    · exact absurd h' hne
    · exact ⟨L, b, by simpa using h'⟩
  rw [Bool.eq_iff_iff]
  simp
theorem endsS_pos {s : ByteArray} (h : endsS s = true) : 1 ≤ s.size := by
  rw [← sz]
  unfold endsS at h
  cases hl : s.data.toList with
  | nil => rw [hl] at h; cases h
  | cons a r => simp
theorem CutSuffix_yes (s : ByteArray) (w : World) (hs : s.size ≤ 40000) (hE : endsS s = true) :
    Calls Tryd.prog 78 #[.string s, .string ⟨#[47]⟩] w fun e w' => e = .returned (.tuple #[.string (s.extract 0 (s.size - 1)), .bool true]) ∧ w = w' := by
  have h1 := endsS_pos hE
  have hb : ((s.extract (s.size - 1) s.size).toList == [47]) = true := by rw [ends_beq s h1, hE]
  go_enter Tryd.func78, Tryd.ntmps78
  go_wp2
  go_ret2
  exact ⟨rfl, rfl⟩
theorem CutSuffix_no (s : ByteArray) (w : World) (hs : s.size ≤ 40000) (hE : endsS s = false) :
    Calls Tryd.prog 78 #[.string s, .string ⟨#[47]⟩] w fun e w' => e = .returned (.tuple #[.string s, .bool false]) ∧ w = w' := by
  by_cases h1 : 1 ≤ s.size
  · have hb : ((s.extract (s.size - 1) s.size).toList == [47]) = false := by rw [ends_beq s h1, hE]
    go_enter Tryd.func78, Tryd.ntmps78
    go_wp2
    go_ret2
    exact ⟨rfl, rfl⟩
  · go_enter Tryd.func78, Tryd.ntmps78
    go_wp2
    go_ret2
    exact ⟨rfl, rfl⟩
end Go.Proofs.YtgcmekpfhagnbaaDoor
