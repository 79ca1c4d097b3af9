/- The words up to a syntax error are the beginning of those of some rules. Plain. -/
import Derived.Test.YtgcmekpfhagnbaaDoorPlA
namespace Go.Proofs.YtgcmekpfhagnbaaDoor

theorem elemsErr_ne3 (vb : ByteArray → Bool) : ∀ (l pre : List ByteArray), elemsErr vb pre l ≠ 3
  | [], pre => by rw [elemsErr]; decide
  | s :: l, pre => by
    rw [elemsErr]
    split
    · split
      · decide
      · exact elemsErr_ne3 vb l _
    · decide
theorem ruleErr_ne3 (r : Rule) : ruleErr r ≠ 3 := by
  unfold ruleErr
  split
  · decide
  split
  · decide
  split
  · decide
  split
  · exact elemsErr_ne3 _ _ _
  · exact elemsErr_ne3 _ _ _
theorem checkFrom_ne3 : ∀ (l pre : List Rule), checkFrom pre l ≠ 3
  | [], pre => by rw [checkFrom]; decide
  | r :: l, pre => by
    rw [checkFrom]
    split
    · split
      · decide
      · exact checkFrom_ne3 l _
    · exact ruleErr_ne3 r
theorem checkErr_ne3 (rs : List Rule) : checkErr rs ≠ 3 := by
  unfold checkErr
  split
  · decide
  · exact checkFrom_ne3 _ _
theorem parse_ok_code {t : ByteArray} {rs : List Rule} (h : RulesW (wordsOf t) rs) : (parseR t).2.2 ≠ 3 := by
  unfold parseR
  rw [parse_rules h _ _ _ rfl (Nat.le_refl _)]
  simp only
  split
  · exact (by decide : (0 : Int) ≠ 3)
  · exact checkErr_ne3 _
def endB (j : Nat) : List UInt8 := match j with | 0 => [] | 1 => [32, 59] | 2 => [32, 122, 122, 32, 59] | _ => [32, 108, 105, 98, 32, 122, 122, 32, 59]
theorem tk_end1 (j : Nat) : tk (endB 1) j = [(⟨#[59]⟩, j + 1)] := rfl
theorem tk_end2 (j : Nat) : tk (endB 2) j = [(⟨#[122, 122]⟩, j + 1), (⟨#[59]⟩, j + 1 + 1 + 1 + 1)] := rfl
theorem zz_name : freeNameS ⟨#[122, 122]⟩ = true := by decide +kernel
theorem zz_label : freeLabelS ⟨#[122, 122]⟩ = true := by decide +kernel
theorem zz_viewer : viewerS ⟨#[122, 122]⟩ = true := by decide +kernel
theorem bad_ends {Q : Words} (h : BadW Q) (i : Nat) : ∃ j, j < 4 ∧ ∃ rs, RulesW (Q ++ tk (endB j) i) rs := by
  rcases h with rfl | ⟨K, k, rfl, hK⟩ | ⟨K, k, N, T, rfl, hK, hN, hT⟩ | ⟨K, k, N, D, l, T, rfl, hK, hN, hD, hT⟩ | ⟨K, k, N, D, l, V, m, rfl, hK, hN, hD, hV⟩
  · exact ⟨0, by omega, [], RulesW.nil⟩
  · refine ⟨2, by omega, [⟨k, ⟨#[122, 122]⟩, [], []⟩], ?_⟩
    rw [tk_end2]
    exact RulesW.one ⟨K, _, [], [], _, rfl, hK, zz_name, rfl, .inl ⟨rfl, rfl⟩, .inl ⟨rfl, rfl⟩, rfl⟩
  · refine ⟨2, by omega, [⟨k, N.1, [⟨#[122, 122]⟩], []⟩], ?_⟩
    rw [tk_end2]
    exact RulesW.one ⟨K, N, [T, _], [], _, rfl, hK, hN, rfl, .inr ⟨T, [_], rfl, hT, by simp, by simp [zz_label], rfl⟩, .inl ⟨rfl, rfl⟩, rfl⟩
  · refine ⟨2, by omega, [⟨k, N.1, l, [⟨#[122, 122]⟩]⟩], ?_⟩
    rw [tk_end2]
    refine RulesW.one ⟨K, N, D, [T, (⟨#[122, 122]⟩, i + 1)], (⟨#[59]⟩, i + 1 + 1 + 1 + 1), by simp, hK, hN, rfl, hD, .inr ⟨T, [_], rfl, hT, by simp, by simp [zz_viewer], rfl⟩, rfl⟩
  · refine ⟨1, by omega, [⟨k, N.1, l, m⟩], ?_⟩
    rw [tk_end1]
    exact RulesW.one ⟨K, N, D, V, (⟨#[59]⟩, i + 1), by simp, hK, hN, rfl, hD, hV, rfl⟩
theorem prefix_law {s : ByteArray} (h : (parseR s).2.2 = 3) : ∃ k : Nat, k ≤ s.size ∧ (parseR s).2.1 = (k : Int) ∧ ∃ j, j < 4 ∧ ∀ t : ByteArray, t.data.toList = s.data.toList.take k ++ 10 :: endB j → (parseR t).2.2 ≠ 3 := by
  rcases parse_inv (wordsOf s).length ⟨wordsOf s, 0, ⟨#[]⟩, [], []⟩ [] (Nat.le_refl _) with ⟨rs, h1, _⟩ | ⟨P, rs', Q, suf, h1, h2, h3, h4⟩
  · exact absurd h (parse_ok_code h1)
  · have key : ∃ k : Nat, k ≤ s.size ∧ (parseR s).2.1 = (k : Int) ∧ CutAt s.data.toList 0 suf k := by
      unfold parseR
      rw [h4]
      cases suf with
      | nil => exact ⟨s.size, Nat.le_refl _, rfl, .inl ⟨rfl, (sz s).symm⟩⟩
      | cons x r =>
        have hx : x ∈ wordsOf s := by
          have h1' : wordsOf s = P ++ (Q ++ x :: r) := h1
          rw [h1']; simp
        exact ⟨x.2, (toks_small s _ _ x hx).2, rfl, .inr ⟨x, r, rfl, by omega⟩⟩
    obtain ⟨k, hk, hat, hcut⟩ := key
    obtain ⟨j, hj, rs, hr⟩ := bad_ends h3 (0 + k + 1)
    refine ⟨k, hk, hat, j, hj, fun t ht => ?_⟩
    have hw : tk s.data.toList 0 = (P ++ Q) ++ suf := by rw [← wordsOf_tk, List.append_assoc]; exact h1
    refine parse_ok_code (rs := rs' ++ rs) ?_
    rw [wordsOf_tk, ht, tk_cut _ _ _ _ _ _ (Nat.le_refl _) hw hcut, List.append_assoc]
    exact RulesW.app hr h2
end Go.Proofs.YtgcmekpfhagnbaaDoor
