/- CommuteNeeds: true, and its arguments read as before, where what it reads is of the bulk of the second form: the tied card. -/
import Derived.Test.YtlcpdhionefmbaaGreatDoorFin
import Derived.Test.YtlcpdhionefmbaaGreatDoorGA
import Derived.Test.YtlcpdhionefmbaaGreatDoorLwCommuteNeeds
import Derived.Deep.DeepHandedRow
namespace Go.Proofs.YtlcpdhionefmbaaGreatDoor
open Go.RowKit Go.ChangeShapes Go.WideShapes Go.ChangeAt

theorem commuteNeeds_params : Tryz.f5.params = #[26, 3] := Tryz.params5
theorem commuteNeeds_witness (os : Os) (H : Type) (enc : TypeId × Value → H) : ∃ (w : World) (tape : Tape) (i : Input), w.os = os ∧ (w.forCall tape i).Shaped Tryz.checked.prog ∧ i.vars = [] ∧ Input.okWide Tryz.checked.prog (w.forCall tape i) .any w.heap.size 5 i ∧
    (Rows.OpenSpec.upto Rows.commuteNeedsSpec).preRow enc Tryz.checked.prog Tryz.f5 Rows.commuteNeedsUptoRow.domain false Rows.commuteNeedsUptoRow.laid (w.forCall tape i).memory i.args ∧ ({} : Assume).holds Tryz.checked.prog (lone (Frame.enter Tryz.checked.prog 5 i.args .normal) [] (w.forCall tape i)) := by
  have hx : (DataW.whole enc Tryz.prog ((World.laidAll Tryz.prog os Rows.commuteNeedsUptoRow.laid).forCall (fun _ _ => 0) ⟨#[], #[.slice none 0 0, .int .i64 0], []⟩).memory Tryz.f5.params.toList Rows.commuteNeedsSpec.vars false #[.slice none 0 0, .int .i64 0].toList 8).map (fun x => Rows.uptoSmall H (x.1 ++ x.2.1)) = some true := by kernel_rfl
  obtain ⟨x, hx1, hx2⟩ := Option.map_eq_some_iff.1 hx
  have hok : Input.okWideB Tryz.prog ((World.laidAll Tryz.prog os Rows.commuteNeedsUptoRow.laid).forCall (fun _ _ => 0) ⟨#[], #[.slice none 0 0, .int .i64 0], []⟩) 5 ⟨#[], #[.slice none 0 0, .int .i64 0], []⟩ = true := by kernel_rfl
  refine ⟨World.laidAll Tryz.prog os Rows.commuteNeedsUptoRow.laid, fun _ _ => 0, ⟨#[], #[.slice none 0 0, .int .i64 0], []⟩, World.laidAll_os _ _ _, World.shaped_of_ZipB (by kernel_rfl) (by kernel_rfl), (Input.okWide_of_okWideB (base := 0) hok).1, (Input.okWide_of_okWideB hok).2, ?_, ?_⟩
  · exact OpenSpec.preRow_of_cond 8 hx1 rfl (fun k hk => by cases hk; exact hx2) (by kernel_rfl) (by rw [MakeChecks.laidMetH_plain _ _ _ (by kernel_rfl)]; exact laidMet_laidAll _ (by kernel_rfl) (by kernel_rfl))
  · simp only [Assume.holds]
    exact ⟨by simp, by simp, fun _ => Modest.zero, by simp, by simp⟩
theorem commuteNeeds_bulk {H : Type} {B : Nat} {x : DataW H} {l gs : List (DataW H)} (h : Rows.uptoSmall H (l ++ gs) = true) (hx : x ∈ l) (hB : 1048576 ≤ B) : Rows.uptoBulk x ≤ B := by
  have h1 := of_decide_eq_true h
  rw [bulkAll_sum] at h1
  have h2 := mem_sum (List.mem_map.2 ⟨x, List.mem_append_left gs hx, rfl⟩ : Rows.uptoBulk x ∈ (l ++ gs).map Rows.uptoBulk)
  omega
set_option maxRecDepth 100000 in
theorem commuteNeeds_lifted (os : Os) (started : os.Started) (H : Type) (enc : TypeId × Value → H) (F : Stop.Interp) :
    ReturnsInHanded {} Tryz.checked os 5 .any ((Rows.OpenSpec.upto Rows.commuteNeedsSpec).preRow enc Tryz.prog Tryz.f5 Rows.commuteNeedsUptoRow.domain false Rows.commuteNeedsUptoRow.laid) (((Rows.OpenSpec.upto Rows.commuteNeedsSpec).at F).post enc Tryz.prog Tryz.f5 false true false false) := by
  refine returnsInHanded_of_row (C := Tryz.checked) (s := Rows.OpenSpec.upto Rows.commuteNeedsSpec) ownK started (by kernel_rfl) Tryz.func5 (commuteNeeds_witness os H enc) ?_
  intro W base args ds gs before hval0 hW _ hcond _ _ _ _
  have hval : ∀ (j : Nat) t v, Tryz.f5.params[j]? = some t → args[j]? = some v → Value.okWide Tryz.prog W .any base t v := hval0
  have hW' := hW
  have hk : Rows.uptoSmall H (ds ++ gs) = true := hcond _ rfl
  obtain ⟨p, q, hA, hV, _, _, _⟩ := hW
  rw [commuteNeeds_params] at hA hval
  obtain ⟨v0, v1, d0, d1, p0, p1, rfl, rfl, rfl, h0, h1⟩ := trodAll_two hA
  obtain ⟨a0, len0, cap0, rfl⟩ := okWide_slice Tryz.underlying26 (hval 0 26 v0 rfl rfl)
  obtain ⟨fuel0, hf0⟩ := h0
  obtain ⟨x0, q0, z0⟩ := opb_edits _ _ _ hf0
  have i0 := ReadsL.one q0
  obtain ⟨_, _, e0, _, _⟩ := edits_val i0
  obtain rfl : len0 = x0.length := by injection e0
  obtain ⟨b0, n0⟩ := edits_big z0 (commuteNeeds_bulk (B := 4000000) hk (by simp) (by omega))
  obtain ⟨x1, rfl, rfl, rfl, z1⟩ := open_int Tryz.underlying3 (hval 1 3 v1 rfl rfl) h1
  refine (LCommuteNeeds_any x0 x1 a0 cap0 W i0 b0 n0).mono fun e W' ⟨he, hbl⟩ => ?_
  subst he
  exact ⟨_, rfl, law_post rfl (by kernel_rfl) (fun t ht => by
    rw [commuteNeeds_params] at ht
    have ht' : t ∈ [26, 3] := ht
    simp only [List.mem_cons, List.not_mem_nil, or_false] at ht'
    rcases ht' with rfl | rfl <;> exact ⟨by kernel_rfl, of_decide_eq_true (by kernel_rfl)⟩) hW' (fun h => by rw [h]; rfl) hbl⟩
theorem commuteNeeds_holds : Rows.CommuteNeedsUptoSaid :=
  OpenClaim.holds_of_cond 5 Tryz.f5 rfl rfl rfl rfl rfl rfl rfl ⟨rfl, rfl, rfl, rfl, rfl⟩ rfl rfl rfl rfl rfl (by kernel_rfl) Tryz.func5 (by kernel_rfl)
    (of_decide_eq_true (by kernel_rfl)) (by unfold Func.isWrapper; first | (rw [if_pos (by decide +kernel)]; kernel_rfl) | (rw [if_neg (by decide +kernel)]; exact ⟨rfl, rfl⟩))
    (fun os started H enc _ F => by rw [OpenClaim.pre_eq_preRow]; exact commuteNeeds_lifted os started H enc F)
theorem commuteNeeds_plain (f : FuncId) (fn : Func) (hf : Tryz.pinned.checked.prog.funcNamed "cordwood/cordwoodlaw35.CommuteNeeds" = some f) (hfn : Tryz.pinned.checked.prog.funcs[f]? = some fn) :
    false = Tryz.pinned.checked.prog.looks [] ∧ ∀ (j : Nat) t, fn.params[j]? = some t → Tryz.pinned.checked.prog.wantsStandIn t = false := by
  obtain rfl : f = 5 := Option.some.inj ((show Tryz.prog.funcNamed "cordwood/cordwoodlaw35.CommuteNeeds" = some 5 by kernel_rfl).symm.trans hf) |>.symm
  obtain rfl : fn = Tryz.f5 := (Option.some.inj (Tryz.func5.symm.trans hfn)).symm
  refine ⟨by kernel_rfl, fun j t hj => ?_⟩
  have ht := List.mem_of_getElem? (Array.getElem?_toList.trans hj)
  rw [commuteNeeds_params] at ht
  have ht' : t ∈ [26, 3] := ht
  simp only [List.mem_cons, List.not_mem_nil, or_false] at ht'
  rcases ht' with rfl | rfl
  · exact (show Tryz.prog.wantsStandIn 26 = false by kernel_rfl)
  · exact (show Tryz.prog.wantsStandIn 3 = false by kernel_rfl)
theorem commuteNeeds_card : Rows.CommuteNeedsUptoCardSaid :=
  Claim7.holds_tied_plain_at .later [] _ _ _ _ commuteNeeds_holds (fun _ h => by cases h) (by kernel_rfl) (fun _ h => by cases h) commuteNeedsUpto_row_tie rfl ⟨rfl, rfl⟩ (by kernel_rfl) rfl commuteNeeds_plain (by kernel_rfl)
#print axioms commuteNeeds_card
end Go.Proofs.YtlcpdhionefmbaaGreatDoor
