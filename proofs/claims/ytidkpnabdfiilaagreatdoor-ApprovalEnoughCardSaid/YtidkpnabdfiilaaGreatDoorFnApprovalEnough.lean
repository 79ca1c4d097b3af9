/- ApprovalEnough returns true for every input, and its arguments read as before: the tied card. No condition of ours. -/
import Derived.Test.YtidkpnabdfiilaaGreatDoorFin
import Derived.Test.YtidkpnabdfiilaaGreatDoorQ17
import Derived.Test.YtidkpnabdfiilaaGreatDoorOpB
import Derived.Test.YtidkpnabdfiilaaGreatDoorLwApprovalEnough
namespace Go.Proofs.YtidkpnabdfiilaaGreatDoor
open Go.RowKit Go.ChangeShapes Go.WideShapes Go.ChangeAt
open Go.ChangeMaps (open_string)

theorem approvalEnough_params : Tryz.f8.params = #[59, 59, 3, 22, 22] := Tryz.params8
set_option maxRecDepth 100000 in
theorem approvalEnough_lifted (os : Os) (started : os.Started) (H : Type) (enc : TypeId × Value → H) :
    ReturnsInHanded {} Tryz.checked os 8 .any (fun w args => (Rows.approvalEnoughSpec.pre enc Tryz.prog Tryz.f8 [] false w args ∧ laidMetH Tryz.prog Rows.approvalEnoughRow.laid w) ∧ sizedMet enc Tryz.prog Tryz.f8 (OpenSpec.ofChange Rows.approvalEnoughSpec) false w args)
      (Rows.approvalEnoughSpec.post enc Tryz.prog Tryz.f8 false true false false) := by
  refine returnsInHanded_of_change_and (C := Tryz.checked) (X := fun w _ => laidMetH Tryz.prog Rows.approvalEnoughRow.laid w) (fun _ _ _ hh h => h.of_heap hh) ownK started (by kernel_rfl) Tryz.func8
    (ChangeSpec.witness_shaped (enc := enc) (C := Tryz.checked) (os := os) (X := fun w _ => laidMetH Tryz.prog Rows.approvalEnoughRow.laid w) false (World.laidAll Tryz.prog os Rows.approvalEnoughRow.laid) #[.slice none 0 0, .slice none 0 0, .int .i64 0, .slice none 0 0, .slice none 0 0] 8 (World.laidAll_os _ _ _)
      (World.shaped_of_ZipB (by kernel_rfl) (by kernel_rfl)) (by kernel_rfl) (by kernel_rfl) (by kernel_rfl)
      (by rw [MakeChecks.laidMetH_plain _ _ _ (by kernel_rfl)]; exact laidMet_laidAll _ (by kernel_rfl) (by kernel_rfl))) ?_
  intro W base args ds gs before hval0 hW _ _ _ _
  have hval : ∀ (j : Nat) t v, Tryz.f8.params[j]? = some t → args[j]? = some v → Value.okWide Tryz.prog W .any base t v := hval0
  have hW' := hW
  obtain ⟨p, q, hA, hV, _, _, _⟩ := hW
  rw [approvalEnough_params] at hA hval
  obtain ⟨v0, v1, v2, v3, v4, d0, d1, d2, d3, d4, p0, p1, p2, p3, p4, rfl, rfl, rfl, h0, h1, h2, h3, h4⟩ := trodAll_five hA
  obtain ⟨a0, len0, cap0, rfl⟩ := okWide_slice Tryz.underlying59 (hval 0 59 v0 rfl rfl)
  obtain ⟨fuel0, hf0⟩ := h0
  obtain ⟨x0, r0, z0⟩ := open_apprs _ _ _ hf0
  obtain ⟨a1, len1, cap1, rfl⟩ := okWide_slice Tryz.underlying59 (hval 1 59 v1 rfl rfl)
  obtain ⟨fuel1, hf1⟩ := h1
  obtain ⟨x1, r1, z1⟩ := open_apprs _ _ _ hf1
  obtain ⟨x2, rfl, rfl, rfl, z2⟩ := open_int Tryz.underlying3 (hval 2 3 v2 rfl rfl) h2
  obtain ⟨a3, len3, cap3, rfl⟩ := okWide_slice Tryz.underlying22 (hval 3 22 v3 rfl rfl)
  obtain ⟨fuel3, hf3⟩ := h3
  obtain ⟨x3, r3, z3⟩ := open_files _ _ _ hf3
  obtain ⟨a4, len4, cap4, rfl⟩ := okWide_slice Tryz.underlying22 (hval 4 22 v4 rfl rfl)
  obtain ⟨fuel4, hf4⟩ := h4
  obtain ⟨x4, r4, z4⟩ := open_files _ _ _ hf4
  refine (LApprovalEnough_any _ x0 _ x1 x2 _ x3 _ x4 W (ReadsL.one r0) z0 (ReadsL.one r1) z1 z2 (ReadsL.one r3) z3 (ReadsL.one r4) z4).mono fun e W' ⟨he, hbl⟩ => ?_
  subst he
  exact ⟨_, rfl, law_post rfl (by kernel_rfl) (fun t ht => by
    rw [approvalEnough_params] at ht
    have ht' : t ∈ [59, 59, 3, 22, 22] := ht
    simp only [List.mem_cons, List.not_mem_nil, or_false] at ht'
    rcases ht' with rfl | rfl | rfl | rfl | rfl <;> exact ⟨by kernel_rfl, of_decide_eq_true (by kernel_rfl)⟩) hW' (fun h => by rw [h]; rfl) hbl⟩
theorem approvalEnough_holds : Rows.ApprovalEnoughSaid :=
  OpenClaim.holds_of_wide 8 Tryz.f8 rfl rfl rfl rfl rfl rfl rfl ⟨rfl, rfl, rfl, rfl, rfl⟩ rfl rfl rfl rfl rfl (by kernel_rfl) Tryz.func8 (by kernel_rfl)
    (of_decide_eq_true (by kernel_rfl)) (by unfold Func.isWrapper; first | (rw [if_pos (by decide +kernel)]; kernel_rfl) | (rw [if_neg (by decide +kernel)]; exact ⟨rfl, rfl⟩))
    (fun os started H enc _ => approvalEnough_lifted os started H enc)
theorem approvalEnough_plain (f : FuncId) (fn : Func) (hf : Tryz.pinned.checked.prog.funcNamed "cordwood/cordwoodlaw55.ApprovalEnough" = some f) (hfn : Tryz.pinned.checked.prog.funcs[f]? = some fn) :
    false = Tryz.pinned.checked.prog.looks [] ∧ ∀ (j : Nat) t, fn.params[j]? = some t → Tryz.pinned.checked.prog.wantsStandIn t = false := by
  obtain rfl : f = 8 := Option.some.inj ((show Tryz.prog.funcNamed "cordwood/cordwoodlaw55.ApprovalEnough" = some 8 by kernel_rfl).symm.trans hf) |>.symm
  obtain rfl : fn = Tryz.f8 := (Option.some.inj (Tryz.func8.symm.trans hfn)).symm
  refine ⟨by kernel_rfl, fun j t hj => ?_⟩
  have ht := List.mem_of_getElem? (Array.getElem?_toList.trans hj)
  rw [approvalEnough_params] at ht
  have ht' : t ∈ [59, 59, 3, 22, 22] := ht
  simp only [List.mem_cons, List.not_mem_nil, or_false] at ht'
  rcases ht' with rfl | rfl | rfl | rfl | rfl
  · exact (show Tryz.prog.wantsStandIn 59 = false by kernel_rfl)
  · exact (show Tryz.prog.wantsStandIn 59 = false by kernel_rfl)
  · exact (show Tryz.prog.wantsStandIn 3 = false by kernel_rfl)
  · exact (show Tryz.prog.wantsStandIn 22 = false by kernel_rfl)
  · exact (show Tryz.prog.wantsStandIn 22 = false by kernel_rfl)
theorem approvalEnough_card : Rows.ApprovalEnoughCardSaid :=
  Claim7.holds_tied_plain_at .later [] _ _ _ _ approvalEnough_holds (fun _ h => by cases h) (by kernel_rfl) (fun _ h => by cases h) approvalEnough_row_tie rfl ⟨rfl, rfl⟩ (by kernel_rfl) rfl approvalEnough_plain (by kernel_rfl)
#print axioms approvalEnough_card
end Go.Proofs.YtidkpnabdfiilaaGreatDoor
