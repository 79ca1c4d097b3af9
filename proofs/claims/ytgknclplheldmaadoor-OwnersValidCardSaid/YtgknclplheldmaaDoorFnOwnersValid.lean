/- OwnersValid returns true for every input, and its arguments read as before: the tied card. No condition of ours. -/
import Derived.Test.YtgknclplheldmaaDoorFin
import Derived.Test.YtgknclplheldmaaDoorOpO
import Derived.Test.YtgknclplheldmaaDoorLwOwnersValid
namespace Go.Proofs.YtgknclplheldmaaDoor
open Go.RowKit Go.ChangeShapes Go.WideShapes Go.ChangeAt
open Go.ChangeMaps (open_string)

theorem ownersValid_params : Tryd.f6.params = #[9] := Tryd.params6
set_option maxRecDepth 100000 in
theorem ownersValid_lifted (os : Os) (started : os.Started) (H : Type) (enc : TypeId × Value → H) :
    ReturnsInHanded {} Tryd.checked os 6 .any (fun w args => (Rows.ownersValidSpec.pre enc Tryd.prog Tryd.f6 [] false w args ∧ laidMetH Tryd.prog Rows.ownersValidRow.laid w) ∧ sizedMet enc Tryd.prog Tryd.f6 (OpenSpec.ofChange Rows.ownersValidSpec) false w args)
      (Rows.ownersValidSpec.post enc Tryd.prog Tryd.f6 false true false false) := by
  refine returnsInHanded_of_change_and (C := Tryd.checked) (X := fun w _ => laidMetH Tryd.prog Rows.ownersValidRow.laid w) (fun _ _ _ hh h => h.of_heap hh) ownK started (by kernel_rfl) Tryd.func6
    (ChangeSpec.witness_shaped (enc := enc) (C := Tryd.checked) (os := os) (X := fun w _ => laidMetH Tryd.prog Rows.ownersValidRow.laid w) false (World.laidAll Tryd.prog os Rows.ownersValidRow.laid) #[.string ⟨#[]⟩] 8 (World.laidAll_os _ _ _)
      (World.shaped_of_ZipB (by kernel_rfl) (by kernel_rfl)) (by kernel_rfl) (by kernel_rfl) (by kernel_rfl)
      (by rw [MakeChecks.laidMetH_plain _ _ _ (by kernel_rfl)]; exact laidMet_laidAll _ (by kernel_rfl) (by kernel_rfl))) ?_
  intro W base args ds gs before hval0 hW _ _ _ _
  have hval : ∀ (j : Nat) t v, Tryd.f6.params[j]? = some t → args[j]? = some v → Value.okWide Tryd.prog W .any base t v := hval0
  have hW' := hW
  obtain ⟨p, q, hA, hV, _, _, _⟩ := hW
  rw [ownersValid_params] at hA hval
  obtain ⟨v0, d0, rfl, rfl, h0⟩ := trodAll_one hA
  obtain ⟨x0, rfl, rfl, rfl, z0⟩ := open_string Tryd.underlying9 (hval 0 9 v0 rfl rfl) h0
  unfold maxLen at z0
  refine (LOwnersValid_any x0 W (by omega)).mono fun e W' ⟨he, hbl⟩ => ?_
  subst he
  exact ⟨_, rfl, law_post rfl (by kernel_rfl) (fun t ht => by
    rw [ownersValid_params] at ht
    have ht' : t ∈ [9] := ht
    simp only [List.mem_cons, List.not_mem_nil, or_false] at ht'
    rcases ht' with rfl <;> exact ⟨by kernel_rfl, of_decide_eq_true (by kernel_rfl)⟩) hW' (fun h => by rw [h]; rfl) hbl⟩
theorem ownersValid_holds : Rows.OwnersValidSaid :=
  OpenClaim.holds_of_wide 6 Tryd.f6 rfl rfl rfl rfl rfl rfl rfl ⟨rfl, rfl, rfl, rfl, rfl⟩ rfl rfl rfl rfl rfl (by kernel_rfl) Tryd.func6 (by kernel_rfl)
    (of_decide_eq_true (by kernel_rfl)) (by unfold Func.isWrapper; first | (rw [if_pos (by decide +kernel)]; kernel_rfl) | (rw [if_neg (by decide +kernel)]; exact ⟨rfl, rfl⟩))
    (fun os started H enc _ => ownersValid_lifted os started H enc)
theorem ownersValid_plain (f : FuncId) (fn : Func) (hf : Tryd.pinned.checked.prog.funcNamed "cordwood/cordwoodlaw54.OwnersValid" = some f) (hfn : Tryd.pinned.checked.prog.funcs[f]? = some fn) :
    false = Tryd.pinned.checked.prog.looks [] ∧ ∀ (j : Nat) t, fn.params[j]? = some t → Tryd.pinned.checked.prog.wantsStandIn t = false := by
  obtain rfl : f = 6 := Option.some.inj ((show Tryd.prog.funcNamed "cordwood/cordwoodlaw54.OwnersValid" = some 6 by kernel_rfl).symm.trans hf) |>.symm
  obtain rfl : fn = Tryd.f6 := (Option.some.inj (Tryd.func6.symm.trans hfn)).symm
  refine ⟨by kernel_rfl, fun j t hj => ?_⟩
  have ht := List.mem_of_getElem? (Array.getElem?_toList.trans hj)
  rw [ownersValid_params] at ht
  have ht' : t ∈ [9] := ht
  simp only [List.mem_cons, List.not_mem_nil, or_false] at ht'
  rcases ht' with rfl
  · exact (show Tryd.prog.wantsStandIn 9 = false by kernel_rfl)
theorem ownersValid_card : Rows.OwnersValidCardSaid :=
  Claim7.holds_tied_plain_at .later [] _ _ _ _ ownersValid_holds (fun _ h => by cases h) (by kernel_rfl) (fun _ h => by cases h) ownersValid_row_tie rfl ⟨rfl, rfl⟩ (by kernel_rfl) rfl ownersValid_plain (by kernel_rfl)
#print axioms ownersValid_card
end Go.Proofs.YtgknclplheldmaaDoor
