/- ApprovalFalls returns true for every input, and its arguments read as before: the tied card. No condition of ours. -/
import Derived.Test.YtidkpnabdfiilaaGreatDoorFin
import Derived.Test.YtidkpnabdfiilaaGreatDoorQ17
import Derived.Test.YtidkpnabdfiilaaGreatDoorOpB
import Derived.Test.YtidkpnabdfiilaaGreatDoorLwApprovalFalls
namespace Go.Proofs.YtidkpnabdfiilaaGreatDoor
open Go.RowKit Go.ChangeShapes Go.WideShapes Go.ChangeAt
open Go.ChangeMaps (open_string)

theorem approvalFalls_params : Tryz.f11.params = #[59, 3, 22, 22] := Tryz.params11
set_option maxRecDepth 100000 in
theorem approvalFalls_lifted (os : Os) (started : os.Started) (H : Type) (enc : TypeId × Value → H) :
    ReturnsInHanded {} Tryz.checked os 11 .any (fun w args => (Rows.approvalFallsSpec.pre enc Tryz.prog Tryz.f11 [] false w args ∧ laidMetH Tryz.prog Rows.approvalFallsRow.laid w) ∧ sizedMet enc Tryz.prog Tryz.f11 (OpenSpec.ofChange Rows.approvalFallsSpec) false w args)
      (Rows.approvalFallsSpec.post enc Tryz.prog Tryz.f11 false true false false) := by
  refine returnsInHanded_of_change_and (C := Tryz.checked) (X := fun w _ => laidMetH Tryz.prog Rows.approvalFallsRow.laid w) (fun _ _ _ hh h => h.of_heap hh) ownK started (by kernel_rfl) Tryz.func11
    (ChangeSpec.witness_shaped (enc := enc) (C := Tryz.checked) (os := os) (X := fun w _ => laidMetH Tryz.prog Rows.approvalFallsRow.laid w) false (World.laidAll Tryz.prog os Rows.approvalFallsRow.laid) #[.slice none 0 0, .int .i64 0, .slice none 0 0, .slice none 0 0] 8 (World.laidAll_os _ _ _)
      (World.shaped_of_ZipB (by kernel_rfl) (by kernel_rfl)) (by kernel_rfl) (by kernel_rfl) (by kernel_rfl)
      (by rw [MakeChecks.laidMetH_plain _ _ _ (by kernel_rfl)]; exact laidMet_laidAll _ (by kernel_rfl) (by kernel_rfl))) ?_
  intro W base args ds gs before hval0 hW _ _ _ _
  have hval : ∀ (j : Nat) t v, Tryz.f11.params[j]? = some t → args[j]? = some v → Value.okWide Tryz.prog W .any base t v := hval0
  have hW' := hW
  obtain ⟨p, q, hA, hV, _, _, _⟩ := hW
  rw [approvalFalls_params] at hA hval
  obtain ⟨v0, v1, v2, v3, d0, d1, d2, d3, p0, p1, p2, p3, rfl, rfl, rfl, h0, h1, h2, h3⟩ := trodAll_four hA
  obtain ⟨a0, len0, cap0, rfl⟩ := okWide_slice Tryz.underlying59 (hval 0 59 v0 rfl rfl)
  obtain ⟨fuel0, hf0⟩ := h0
  obtain ⟨x0, r0, z0⟩ := open_apprs _ _ _ hf0
  obtain ⟨x1, rfl, rfl, rfl, z1⟩ := open_int Tryz.underlying3 (hval 1 3 v1 rfl rfl) h1
  obtain ⟨a2, len2, cap2, rfl⟩ := okWide_slice Tryz.underlying22 (hval 2 22 v2 rfl rfl)
  obtain ⟨fuel2, hf2⟩ := h2
  obtain ⟨x2, r2, z2⟩ := open_files _ _ _ hf2
  obtain ⟨a3, len3, cap3, rfl⟩ := okWide_slice Tryz.underlying22 (hval 3 22 v3 rfl rfl)
  obtain ⟨fuel3, hf3⟩ := h3
  obtain ⟨x3, r3, z3⟩ := open_files _ _ _ hf3
  refine (LApprovalFalls_any _ x0 x1 _ x2 _ x3 W (ReadsL.one r0) z0 z1 (ReadsL.one r2) z2 (ReadsL.one r3) z3).mono fun e W' ⟨he, hbl⟩ => ?_
  subst he
  exact ⟨_, rfl, law_post rfl (by kernel_rfl) (fun t ht => by
    rw [approvalFalls_params] at ht
    have ht' : t ∈ [59, 3, 22, 22] := ht
    simp only [List.mem_cons, List.not_mem_nil, or_false] at ht'
    rcases ht' with rfl | rfl | rfl | rfl <;> exact ⟨by kernel_rfl, of_decide_eq_true (by kernel_rfl)⟩) hW' (fun h => by rw [h]; rfl) hbl⟩
theorem approvalFalls_holds : Rows.ApprovalFallsSaid :=
  OpenClaim.holds_of_wide 11 Tryz.f11 rfl rfl rfl rfl rfl rfl rfl ⟨rfl, rfl, rfl, rfl, rfl⟩ rfl rfl rfl rfl rfl (by kernel_rfl) Tryz.func11 (by kernel_rfl)
    (of_decide_eq_true (by kernel_rfl)) (by unfold Func.isWrapper; first | (rw [if_pos (by decide +kernel)]; kernel_rfl) | (rw [if_neg (by decide +kernel)]; exact ⟨rfl, rfl⟩))
    (fun os started H enc _ => approvalFalls_lifted os started H enc)
theorem approvalFalls_plain (f : FuncId) (fn : Func) (hf : Tryz.pinned.checked.prog.funcNamed "cordwood/cordwoodlaw55.ApprovalFalls" = some f) (hfn : Tryz.pinned.checked.prog.funcs[f]? = some fn) :
    false = Tryz.pinned.checked.prog.looks [] ∧ ∀ (j : Nat) t, fn.params[j]? = some t → Tryz.pinned.checked.prog.wantsStandIn t = false := by
  obtain rfl : f = 11 := Option.some.inj ((show Tryz.prog.funcNamed "cordwood/cordwoodlaw55.ApprovalFalls" = some 11 by kernel_rfl).symm.trans hf) |>.symm
  obtain rfl : fn = Tryz.f11 := (Option.some.inj (Tryz.func11.symm.trans hfn)).symm
  refine ⟨by kernel_rfl, fun j t hj => ?_⟩
  have ht := List.mem_of_getElem? (Array.getElem?_toList.trans hj)
  rw [approvalFalls_params] at ht
  have ht' : t ∈ [59, 3, 22, 22] := ht
  simp only [List.mem_cons, List.not_mem_nil, or_false] at ht'
  rcases ht' with rfl | rfl | rfl | rfl
  · exact (show Tryz.prog.wantsStandIn 59 = false by kernel_rfl)
  · exact (show Tryz.prog.wantsStandIn 3 = false by kernel_rfl)
  · exact (show Tryz.prog.wantsStandIn 22 = false by kernel_rfl)
  · exact (show Tryz.prog.wantsStandIn 22 = false by kernel_rfl)
theorem approvalFalls_card : Rows.ApprovalFallsCardSaid :=
  Claim7.holds_tied_plain_at .later [] _ _ _ _ approvalFalls_holds (fun _ h => by cases h) (by kernel_rfl) (fun _ h => by cases h) approvalFalls_row_tie rfl ⟨rfl, rfl⟩ (by kernel_rfl) rfl approvalFalls_plain (by kernel_rfl)
#print axioms approvalFalls_card
end Go.Proofs.YtidkpnabdfiilaaGreatDoor
