/- The reference's Strings and Same on equal lists. -/
import Derived.Test.YtgcmekpfhagnbaaDoorBfG
namespace Go.Proofs.YtgcmekpfhagnbaaDoor
open Go.RowKit

theorem Strs.elem {w : World} {a : Option Addr} {cap : Nat} {ss : List ByteArray} (h : Strs w (.slice a ss.length cap) ss) {i : Nat} (hi : i < ss.length) :
    ∃ (b o : Nat), a = some ⟨b, o, none⟩ ∧ b < w.heap.size ∧ w.cell? ⟨b, o + i, none⟩ = some (.string (ss.getD i ByteArray.empty)) := by
  obtain ⟨a', cap', e, _, _, h3⟩ := h.shape
  cases e
  obtain ⟨b, o, rfl, hb, hc⟩ := h3 i hi
  exact ⟨b, o, rfl, hb, hc i hi⟩
theorem Strs.len {w : World} {v : Value} {ss : List ByteArray} (h : Strs w v ss) : ∃ (a : Option Addr) (cap : Nat), v = .slice a ss.length cap ∧ ss.length ≤ cap ∧ cap ≤ 9223372036854775807 := by
  obtain ⟨a, cap, e, h1, h2, _⟩ := h.shape; exact ⟨a, cap, e, h1, by unfold maxLen at h2; omega⟩
theorem rStrings_eq (v1 v2 : Value) (ss : List ByteArray) (w : World) (h1 : Strs w v1 ss) (h2 : Strs w v2 ss) :
    Calls Tryd.prog 34 #[v1, v2] w fun e w' => e = .returned (.bool true) ∧ ∃ n, w' = w.drewN n := by
  obtain ⟨a1, cap1, rfl, l1, m1⟩ := h1.len
  obtain ⟨a2, cap2, rfl, l2, m2⟩ := h2.len
  have H1 := Lib.hid h1
  have H2 := Lib.hid h2
  clear h1 h2
  go_enter Tryd.func34, Tryd.ntmps34
  go_wp2
  go_loopw [5] (fun i wr => ∃ k : Nat, k ≤ ss.length ∧ i = .int .i64 k ∧ Hid (∃ n, wr = w.drewN n)) (fun i _ => ss.length - (intOf i).toNat)
  case atStart => exact ⟨0, Nat.zero_le _, rfl, 0, rfl⟩
  case round =>
    obtain ⟨k, hk, rfl, HW⟩ := hrel
    by_cases hlt : k < ss.length
    · have hs1 : Strs wr (.slice a1 ss.length cap1) ss := by obtain ⟨n, rfl⟩ := HW.out; exact H1.out.drewN n
      have hs2 : Strs wr (.slice a2 ss.length cap2) ss := by obtain ⟨n, rfl⟩ := HW.out; exact H2.out.drewN n
      obtain ⟨b1, o1, rfl, hb1, c1⟩ := hs1.elem hlt
      obtain ⟨b2, o2, rfl, hb2, c2⟩ := hs2.elem hlt
      generalize ss.getD k ByteArray.empty = t at *
      have hne : (t.toList != t.toList) = false := by simp
      clear hs1 hs2
      go_wp2
      go_quiet (fail)
      go_wp2
      go_roundw
      case rel => exact ⟨k + 1, by omega, by go_num, by obtain ⟨n, rfl⟩ := HW.out; exact ⟨_, World.drewN_drewN _ _ _⟩⟩
      case measure => simp [intOf]; omega
    · go_wp2
      go_ret
      exact ⟨rfl, HW.out⟩
set_option maxHeartbeats 1000000 in
theorem rSame_eq (v1 v2 : Value) (rs : List Rule) (w : World) (h1 : IsRules w v1 rs) (h2 : IsRules w v2 rs) :
    Calls Tryd.prog 14 #[v1, v2] w fun e w' => e = .returned (.bool true) ∧ ∃ n, w' = w.drewN n := by
  obtain ⟨a1, cap1, rfl, l1, m1⟩ := h1.val
  obtain ⟨a2, cap2, rfl, l2, m2⟩ := h2.val
  have H1 := Lib.hid h1
  have H2 := Lib.hid h2
  clear h1 h2
  go_enter Tryd.func14, Tryd.ntmps14
  go_wp2
  go_loopw [5] (fun i wr => ∃ k : Nat, k ≤ rs.length ∧ i = .int .i64 k ∧ Hid (∃ n, wr = w.drewN n)) (fun i _ => rs.length - (intOf i).toNat)
  case atStart => exact ⟨0, Nat.zero_le _, rfl, 0, rfl⟩
  case round =>
    obtain ⟨k, hk, rfl, HW⟩ := hrel
    by_cases hlt : k < rs.length
    · obtain ⟨r, hrk⟩ : ∃ r, rs[k]? = some r := ⟨_, List.getElem?_eq_getElem hlt⟩
      have hs1 : IsRules wr (.slice a1 rs.length cap1) rs := by obtain ⟨n, rfl⟩ := HW.out; exact H1.out.drewN n
      have hs2 : IsRules wr (.slice a2 rs.length cap2) rs := by obtain ⟨n, rfl⟩ := HW.out; exact H2.out.drewN n
      obtain ⟨b1, o1, ad1, cd1, av1, cv1, rfl, hb1, c10, c11, c12, c13, s1d, s1v⟩ := hs1.elem hrk
      obtain ⟨b2, o2, ad2, cd2, av2, cv2, rfl, hb2, c20, c21, c22, c23, s2d, s2v⟩ := hs2.elem hrk
      have hne1 : (r.kind != r.kind) = false := by simp
      have hne2 : (r.name.toList != r.name.toList) = false := by simp
      clear hs1 hs2 hrk
      go_wp2
      go_quiet ((go_at_call 34; first | exact Calls.quiet_of ((rStrings_eq _ _ r.deps _ (s1d.out.drewN _) (s2d.out.drewN _))) | exact Calls.quiet_of ((rStrings_eq _ _ r.vis _ (s1v.out.drewN _) (s2v.out.drewN _)))))
      go_wp2
      go_roundw
      case rel => exact ⟨k + 1, by omega, by go_num, by obtain ⟨n, rfl⟩ := HW.out; exact ⟨_, World.drewN_drewN _ _ _⟩⟩
      case measure => simp [intOf]; omega
    · go_wp2
      go_ret
      exact ⟨rfl, HW.out⟩
end Go.Proofs.YtgcmekpfhagnbaaDoor
