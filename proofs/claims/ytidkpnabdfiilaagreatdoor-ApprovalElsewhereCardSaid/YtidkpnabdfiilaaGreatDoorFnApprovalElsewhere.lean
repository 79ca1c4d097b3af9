/- ApprovalElsewhere returns true for every input, and its arguments read as before: the tied card. No condition of ours. -/
import Derived.Test.YtidkpnabdfiilaaGreatDoorFin
import Derived.Test.YtidkpnabdfiilaaGreatDoorQ17
import Derived.Test.YtidkpnabdfiilaaGreatDoorOpB
import Derived.Test.YtidkpnabdfiilaaGreatDoorLwApprovalElsewhere
namespace Go.Proofs.YtidkpnabdfiilaaGreatDoor
open Go.RowKit Go.ChangeShapes Go.WideShapes Go.ChangeAt
open Go.ChangeMaps (open_string)

theorem array2 {a : Array Value} (h : a.size = 2) : ∃ x y, a = #[x, y] := by
  obtain ⟨l⟩ := a
  match l, h with
  | [x, y], _ => exact ⟨x, y, rfl⟩
theorem file_cells {w : World} {f : OFile} {y u : Value} (h : ReadsL w [] (fileT f) [y, u]) : y = .string f.path ∧ u = .string f.data := by
  obtain ⟨x1, r1, e1, h1, h2⟩ := ReadsL.inv (show ReadsL w [] [strT f.path, strT f.data] [y, u] from h)
  cases e1
  obtain ⟨x2, r2, e2, h3, h4⟩ := ReadsL.inv h2
  cases e2
  exact ⟨Reads.leafv h1, Reads.leafv h3⟩
theorem approvalElsewhere_params : Tryz.f7.params = #[22, 22, 9, 55, 55] := Tryz.params7
set_option maxRecDepth 100000 in
theorem approvalElsewhere_lifted (os : Os) (started : os.Started) (H : Type) (enc : TypeId × Value → H) :
    ReturnsInHanded {} Tryz.checked os 7 .any (fun w args => (Rows.approvalElsewhereSpec.pre enc Tryz.prog Tryz.f7 [] false w args ∧ laidMetH Tryz.prog Rows.approvalElsewhereRow.laid w) ∧ sizedMet enc Tryz.prog Tryz.f7 (OpenSpec.ofChange Rows.approvalElsewhereSpec) false w args)
      (Rows.approvalElsewhereSpec.post enc Tryz.prog Tryz.f7 false true false false) := by
  refine returnsInHanded_of_change_and (C := Tryz.checked) (X := fun w _ => laidMetH Tryz.prog Rows.approvalElsewhereRow.laid w) (fun _ _ _ hh h => h.of_heap hh) ownK started (by kernel_rfl) Tryz.func7
    (ChangeSpec.witness_shaped (enc := enc) (C := Tryz.checked) (os := os) (X := fun w _ => laidMetH Tryz.prog Rows.approvalElsewhereRow.laid w) false (World.laidAll Tryz.prog os Rows.approvalElsewhereRow.laid) #[.slice none 0 0, .slice none 0 0, .string ⟨#[]⟩, .agg #[.string ⟨#[]⟩, .string ⟨#[]⟩], .agg #[.string ⟨#[]⟩, .string ⟨#[]⟩]] 8 (World.laidAll_os _ _ _)
      (World.shaped_of_ZipB (by kernel_rfl) (by kernel_rfl)) (by kernel_rfl) (by kernel_rfl) (by kernel_rfl)
      (by rw [MakeChecks.laidMetH_plain _ _ _ (by kernel_rfl)]; exact laidMet_laidAll _ (by kernel_rfl) (by kernel_rfl))) ?_
  intro W base args ds gs before hval0 hW _ _ _ _
  have hval : ∀ (j : Nat) t v, Tryz.f7.params[j]? = some t → args[j]? = some v → Value.okWide Tryz.prog W .any base t v := hval0
  have hW' := hW
  obtain ⟨p, q, hA, hV, _, _, _⟩ := hW
  rw [approvalElsewhere_params] at hA hval
  obtain ⟨v0, v1, v2, v3, v4, d0, d1, d2, d3, d4, p0, p1, p2, p3, p4, rfl, rfl, rfl, h0, h1, h2, h3, h4⟩ := trodAll_five hA
  obtain ⟨a0, len0, cap0, rfl⟩ := okWide_slice Tryz.underlying22 (hval 0 22 v0 rfl rfl)
  obtain ⟨fuel0, hf0⟩ := h0
  obtain ⟨x0, r0, z0⟩ := open_files _ _ _ hf0
  obtain ⟨a1, len1, cap1, rfl⟩ := okWide_slice Tryz.underlying22 (hval 1 22 v1 rfl rfl)
  obtain ⟨fuel1, hf1⟩ := h1
  obtain ⟨x1, r1, z1⟩ := open_files _ _ _ hf1
  obtain ⟨x2, rfl, rfl, rfl, z2⟩ := open_string Tryz.underlying9 (hval 2 9 v2 rfl rfl) h2
  unfold maxLen at z2
  obtain ⟨cs3, rfl, hcs3⟩ := okWide_struct Tryz.underlying55 (hval 3 55 v3 rfl rfl)
  rw [show Tryz.prog.cellsOf 55 = 2 by kernel_rfl] at hcs3
  obtain ⟨y3, u3, rfl⟩ := array2 hcs3
  obtain ⟨fuel3, hf3⟩ := h3
  obtain ⟨x3, r3, z3⟩ := open_file _ _ _ hf3
  obtain ⟨rfl, rfl⟩ := file_cells r3
  obtain ⟨cs4, rfl, hcs4⟩ := okWide_struct Tryz.underlying55 (hval 4 55 v4 rfl rfl)
  rw [show Tryz.prog.cellsOf 55 = 2 by kernel_rfl] at hcs4
  obtain ⟨y4, u4, rfl⟩ := array2 hcs4
  obtain ⟨fuel4, hf4⟩ := h4
  obtain ⟨x4, r4, z4⟩ := open_file _ _ _ hf4
  obtain ⟨rfl, rfl⟩ := file_cells r4
  refine (LApprovalElsewhere_any _ x0 _ x1 x2 x3 x4 W (ReadsL.one r0) z0 (ReadsL.one r1) z1 (by omega) z3 z4).mono fun e W' ⟨he, hbl⟩ => ?_
  subst he
  exact ⟨_, rfl, law_post rfl (by kernel_rfl) (fun t ht => by
    rw [approvalElsewhere_params] at ht
    have ht' : t ∈ [22, 22, 9, 55, 55] := ht
    simp only [List.mem_cons, List.not_mem_nil, or_false] at ht'
    rcases ht' with rfl | rfl | rfl | rfl | rfl <;> exact ⟨by kernel_rfl, of_decide_eq_true (by kernel_rfl)⟩) hW' (fun h => by rw [h]; rfl) hbl⟩
theorem approvalElsewhere_holds : Rows.ApprovalElsewhereSaid :=
  OpenClaim.holds_of_wide 7 Tryz.f7 rfl rfl rfl rfl rfl rfl rfl ⟨rfl, rfl, rfl, rfl, rfl⟩ rfl rfl rfl rfl rfl (by kernel_rfl) Tryz.func7 (by kernel_rfl)
    (of_decide_eq_true (by kernel_rfl)) (by unfold Func.isWrapper; first | (rw [if_pos (by decide +kernel)]; kernel_rfl) | (rw [if_neg (by decide +kernel)]; exact ⟨rfl, rfl⟩))
    (fun os started H enc _ => approvalElsewhere_lifted os started H enc)
theorem approvalElsewhere_plain (f : FuncId) (fn : Func) (hf : Tryz.pinned.checked.prog.funcNamed "cordwood/cordwoodlaw55.ApprovalElsewhere" = some f) (hfn : Tryz.pinned.checked.prog.funcs[f]? = some fn) :
    false = Tryz.pinned.checked.prog.looks [] ∧ ∀ (j : Nat) t, fn.params[j]? = some t → Tryz.pinned.checked.prog.wantsStandIn t = false := by
  obtain rfl : f = 7 := Option.some.inj ((show Tryz.prog.funcNamed "cordwood/cordwoodlaw55.ApprovalElsewhere" = some 7 by kernel_rfl).symm.trans hf) |>.symm
  obtain rfl : fn = Tryz.f7 := (Option.some.inj (Tryz.func7.symm.trans hfn)).symm
  refine ⟨by kernel_rfl, fun j t hj => ?_⟩
  have ht := List.mem_of_getElem? (Array.getElem?_toList.trans hj)
  rw [approvalElsewhere_params] at ht
  have ht' : t ∈ [22, 22, 9, 55, 55] := ht
  simp only [List.mem_cons, List.not_mem_nil, or_false] at ht'
  rcases ht' with rfl | rfl | rfl | rfl | rfl
  · exact (show Tryz.prog.wantsStandIn 22 = false by kernel_rfl)
  · exact (show Tryz.prog.wantsStandIn 22 = false by kernel_rfl)
  · exact (show Tryz.prog.wantsStandIn 9 = false by kernel_rfl)
  · exact (show Tryz.prog.wantsStandIn 55 = false by kernel_rfl)
  · exact (show Tryz.prog.wantsStandIn 55 = false by kernel_rfl)
theorem approvalElsewhere_card : Rows.ApprovalElsewhereCardSaid :=
  Claim7.holds_tied_plain_at .later [] _ _ _ _ approvalElsewhere_holds (fun _ h => by cases h) (by kernel_rfl) (fun _ h => by cases h) approvalElsewhere_row_tie rfl ⟨rfl, rfl⟩ (by kernel_rfl) rfl approvalElsewhere_plain (by kernel_rfl)
#print axioms approvalElsewhere_card
end Go.Proofs.YtidkpnabdfiilaaGreatDoor
