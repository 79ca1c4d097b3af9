/- OwnersGroups returns true for every input, and its arguments read as before: the tied card. No condition of ours. -/
import Derived.Test.YtgknclplheldmaaGreatDoorFin
import Derived.Test.YtgknclplheldmaaGreatDoorOpO
import Derived.Test.YtgknclplheldmaaGreatDoorLwOwnersGroups
namespace Go.Proofs.YtgknclplheldmaaGreatDoor
open Go.RowKit Go.ChangeShapes Go.WideShapes Go.ChangeAt
open Go.ChangeMaps (open_string)

theorem ownersGroups_params : Tryz.f3.params = #[22, 9] := Tryz.params3
set_option maxRecDepth 100000 in
theorem ownersGroups_lifted (os : Os) (started : os.Started) (H : Type) (enc : TypeId × Value → H) :
    ReturnsInHanded {} Tryz.checked os 3 .any (fun w args => (Rows.ownersGroupsSpec.pre enc Tryz.prog Tryz.f3 [] false w args ∧ laidMetH Tryz.prog Rows.ownersGroupsRow.laid w) ∧ sizedMet enc Tryz.prog Tryz.f3 (OpenSpec.ofChange Rows.ownersGroupsSpec) false w args)
      (Rows.ownersGroupsSpec.post enc Tryz.prog Tryz.f3 false true false false) := by
  refine returnsInHanded_of_change_and (C := Tryz.checked) (X := fun w _ => laidMetH Tryz.prog Rows.ownersGroupsRow.laid w) (fun _ _ _ hh h => h.of_heap hh) ownK started (by kernel_rfl) Tryz.func3
    (ChangeSpec.witness_shaped (enc := enc) (C := Tryz.checked) (os := os) (X := fun w _ => laidMetH Tryz.prog Rows.ownersGroupsRow.laid w) false (World.laidAll Tryz.prog os Rows.ownersGroupsRow.laid) #[.slice none 0 0, .string ⟨#[]⟩] 8 (World.laidAll_os _ _ _)
      (World.shaped_of_ZipB (by kernel_rfl) (by kernel_rfl)) (by kernel_rfl) (by kernel_rfl) (by kernel_rfl)
      (by rw [MakeChecks.laidMetH_plain _ _ _ (by kernel_rfl)]; exact laidMet_laidAll _ (by kernel_rfl) (by kernel_rfl))) ?_
  intro W base args ds gs before hval0 hW _ _ _ _
  have hval : ∀ (j : Nat) t v, Tryz.f3.params[j]? = some t → args[j]? = some v → Value.okWide Tryz.prog W .any base t v := hval0
  have hW' := hW
  obtain ⟨p, q, hA, hV, _, _, _⟩ := hW
  rw [ownersGroups_params] at hA hval
  obtain ⟨v0, v1, d0, d1, p0, p1, rfl, rfl, rfl, h0, h1⟩ := trodAll_two hA
  obtain ⟨a0, len0, cap0, rfl⟩ := okWide_slice Tryz.underlying22 (hval 0 22 v0 rfl rfl)
  obtain ⟨fuel0, hf0⟩ := h0
  obtain ⟨x0, r0, z0⟩ := open_files _ _ _ hf0
  obtain ⟨x1, rfl, rfl, rfl, z1⟩ := open_string Tryz.underlying9 (hval 1 9 v1 rfl rfl) h1
  unfold maxLen at z1
  refine (LOwnersGroups_any _ x0 x1 W (ReadsL.one r0) z0 (by omega)).mono fun e W' ⟨he, hbl⟩ => ?_
  subst he
  exact ⟨_, rfl, law_post rfl (by kernel_rfl) (fun t ht => by
    rw [ownersGroups_params] at ht
    have ht' : t ∈ [22, 9] := ht
    simp only [List.mem_cons, List.not_mem_nil, or_false] at ht'
    rcases ht' with rfl | rfl <;> exact ⟨by kernel_rfl, of_decide_eq_true (by kernel_rfl)⟩) hW' (fun h => by rw [h]; rfl) hbl⟩
theorem ownersGroups_holds : Rows.OwnersGroupsSaid :=
  OpenClaim.holds_of_wide 3 Tryz.f3 rfl rfl rfl rfl rfl rfl rfl ⟨rfl, rfl, rfl, rfl, rfl⟩ rfl rfl rfl rfl rfl (by kernel_rfl) Tryz.func3 (by kernel_rfl)
    (of_decide_eq_true (by kernel_rfl)) (by unfold Func.isWrapper; first | (rw [if_pos (by decide +kernel)]; kernel_rfl) | (rw [if_neg (by decide +kernel)]; exact ⟨rfl, rfl⟩))
    (fun os started H enc _ => ownersGroups_lifted os started H enc)
theorem ownersGroups_plain (f : FuncId) (fn : Func) (hf : Tryz.pinned.checked.prog.funcNamed "cordwood/cordwoodlaw54.OwnersGroups" = some f) (hfn : Tryz.pinned.checked.prog.funcs[f]? = some fn) :
    false = Tryz.pinned.checked.prog.looks [] ∧ ∀ (j : Nat) t, fn.params[j]? = some t → Tryz.pinned.checked.prog.wantsStandIn t = false := by
  obtain rfl : f = 3 := Option.some.inj ((show Tryz.prog.funcNamed "cordwood/cordwoodlaw54.OwnersGroups" = some 3 by kernel_rfl).symm.trans hf) |>.symm
  obtain rfl : fn = Tryz.f3 := (Option.some.inj (Tryz.func3.symm.trans hfn)).symm
  refine ⟨by kernel_rfl, fun j t hj => ?_⟩
  have ht := List.mem_of_getElem? (Array.getElem?_toList.trans hj)
  rw [ownersGroups_params] at ht
  have ht' : t ∈ [22, 9] := ht
  simp only [List.mem_cons, List.not_mem_nil, or_false] at ht'
  rcases ht' with rfl | rfl
  · exact (show Tryz.prog.wantsStandIn 22 = false by kernel_rfl)
  · exact (show Tryz.prog.wantsStandIn 9 = false by kernel_rfl)
theorem ownersGroups_card : Rows.OwnersGroupsCardSaid :=
  Claim7.holds_tied_plain_at .later [] _ _ _ _ ownersGroups_holds (fun _ h => by cases h) (by kernel_rfl) (fun _ h => by cases h) ownersGroups_row_tie rfl ⟨rfl, rfl⟩ (by kernel_rfl) rfl ownersGroups_plain (by kernel_rfl)
#print axioms ownersGroups_card
end Go.Proofs.YtgknclplheldmaaGreatDoor
