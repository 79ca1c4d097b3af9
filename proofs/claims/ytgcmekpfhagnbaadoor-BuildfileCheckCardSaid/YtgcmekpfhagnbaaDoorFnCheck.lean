/- BuildfileCheck returns true for every input, and its argument reads as before: the tied card. No condition of ours. -/
import Derived.Test.YtgcmekpfhagnbaaDoorFin
import Derived.Test.YtgcmekpfhagnbaaDoorOpA
import Derived.Test.YtgcmekpfhagnbaaDoorLwCheck
namespace Go.Proofs.YtgcmekpfhagnbaaDoor
open Go.RowKit Go.ChangeShapes Go.WideShapes Go.ChangeAt

theorem check_params : Tryd.f7.params = #[23] := Tryd.params7
set_option maxRecDepth 100000 in
theorem check_lifted (os : Os) (started : os.Started) (H : Type) (enc : TypeId × Value → H) :
    ReturnsInHanded {} Tryd.checked os 7 .any (fun w args => (Rows.buildfileCheckSpec.pre enc Tryd.prog Tryd.f7 [] false w args ∧ laidMetH Tryd.prog Rows.buildfileCheckRow.laid w) ∧ sizedMet enc Tryd.prog Tryd.f7 (OpenSpec.ofChange Rows.buildfileCheckSpec) false w args)
      (Rows.buildfileCheckSpec.post enc Tryd.prog Tryd.f7 false true false false) := by
  refine returnsInHanded_of_change_and (C := Tryd.checked) (X := fun w _ => laidMetH Tryd.prog Rows.buildfileCheckRow.laid w) (fun _ _ _ hh h => h.of_heap hh) ownK started (by kernel_rfl) Tryd.func7
    (ChangeSpec.witness_shaped (enc := enc) (C := Tryd.checked) (os := os) (X := fun w _ => laidMetH Tryd.prog Rows.buildfileCheckRow.laid w) false (World.laidAll Tryd.prog os Rows.buildfileCheckRow.laid) #[.slice none 0 0] 8 (World.laidAll_os _ _ _)
      (World.shaped_of_ZipB (by kernel_rfl) (by kernel_rfl)) (by kernel_rfl) (by kernel_rfl) (by kernel_rfl)
      (by rw [MakeChecks.laidMetH_plain _ _ _ (by kernel_rfl)]; exact laidMet_laidAll _ (by kernel_rfl) (by kernel_rfl))) ?_
  intro W base args ds gs before hval0 hW _ _ _ _
  have hval : ∀ (j : Nat) t v, Tryd.f7.params[j]? = some t → args[j]? = some v → Value.okWide Tryd.prog W .any base t v := hval0
  have hW' := hW
  obtain ⟨p, q, hA, hV, _, _, _⟩ := hW
  rw [check_params] at hA hval
  obtain ⟨v0, d0, rfl, rfl, h0⟩ := trodAll_one hA
  obtain ⟨a, len, cap, rfl⟩ := okWide_slice Tryd.underlying23 (hval 0 23 v0 rfl rfl)
  obtain ⟨fuel, hf⟩ := h0
  obtain ⟨rs, hrs, hsz⟩ := open_rulesL hf
  refine (LCheck_any _ rs W hrs hsz).mono fun e W' ⟨he, hbl⟩ => ?_
  subst he
  exact ⟨_, rfl, law_post rfl (by kernel_rfl) (fun t ht => by
    rw [check_params] at ht
    obtain rfl : t = 23 := by simpa using ht
    exact ⟨by kernel_rfl, of_decide_eq_true (by kernel_rfl)⟩) hW' (fun h => by rw [h]; rfl) hbl⟩
theorem check_holds : Rows.BuildfileCheckSaid :=
  OpenClaim.holds_of_wide 7 Tryd.f7 rfl rfl rfl rfl rfl rfl rfl ⟨rfl, rfl, rfl, rfl, rfl⟩ rfl rfl rfl rfl rfl (by kernel_rfl) Tryd.func7 (by kernel_rfl)
    (of_decide_eq_true (by kernel_rfl)) (by unfold Func.isWrapper; first | (rw [if_pos (by decide +kernel)]; kernel_rfl) | (rw [if_neg (by decide +kernel)]; exact ⟨rfl, rfl⟩))
    (fun os started H enc _ => check_lifted os started H enc)
theorem check_plain (f : FuncId) (fn : Func) (hf : Tryd.pinned.checked.prog.funcNamed "cordwood/cordwoodlaw38.BuildfileCheck" = some f) (hfn : Tryd.pinned.checked.prog.funcs[f]? = some fn) :
    false = Tryd.pinned.checked.prog.looks [] ∧ ∀ (j : Nat) t, fn.params[j]? = some t → Tryd.pinned.checked.prog.wantsStandIn t = false := by
  obtain rfl : f = 7 := Option.some.inj ((show Tryd.prog.funcNamed "cordwood/cordwoodlaw38.BuildfileCheck" = some 7 by kernel_rfl).symm.trans hf) |>.symm
  obtain rfl : fn = Tryd.f7 := (Option.some.inj (Tryd.func7.symm.trans hfn)).symm
  refine ⟨by kernel_rfl, fun j t ht => ?_⟩
  rw [check_params] at ht
  obtain rfl : t = 23 := by simpa using Array.mem_of_getElem? ht
  exact (show Tryd.prog.wantsStandIn 23 = false by kernel_rfl)
theorem buildfileCheck_card : Rows.BuildfileCheckCardSaid :=
  Claim7.holds_tied_plain_at .later [] _ _ _ _ check_holds (fun _ h => by cases h) (by kernel_rfl) (fun _ h => by cases h) buildfileCheck_row_tie rfl ⟨rfl, rfl⟩ (by kernel_rfl) rfl check_plain (by kernel_rfl)
#print axioms buildfileCheck_card
end Go.Proofs.YtgcmekpfhagnbaaDoor
