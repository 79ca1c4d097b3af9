/- ModmergeMerge: true, and its arguments read as before, where what it reads is of the bulk of the second form: the tied card. -/
import Derived.Test.YtlgnedahnaojlaaGreatDoorUFin
import Derived.Test.YtlgnedahnaojlaaGreatDoorUG5
import Derived.Test.YtlgnedahnaojlaaGreatDoorULwModmergeMerge
import Derived.Deep.DeepHandedRow
namespace Go.Proofs.YtlgnedahnaojlaaGreatDoor
open Go.RowKit Go.ChangeShapes Go.WideShapes Go.ChangeAt

theorem modmergeMerge_params : Tryz.f3.params = #[25, 25, 25] := Tryz.params3
theorem modmergeMerge_witness (os : Os) (H : Type) (enc : TypeId × Value → H) : ∃ (w : World) (tape : Tape) (i : Input), w.os = os ∧ (w.forCall tape i).Shaped Tryz.checked.prog ∧ i.vars = [] ∧ Input.okWide Tryz.checked.prog (w.forCall tape i) .any w.heap.size 3 i ∧
  (Rows.OpenSpec.upto Rows.modmergeMergeSpec).preRow enc Tryz.checked.prog Tryz.f3 Rows.modmergeMergeUptoRow.domain false Rows.modmergeMergeUptoRow.laid (w.forCall tape i).memory i.args ∧ ({} : Assume).holds Tryz.checked.prog (lone (Frame.enter Tryz.checked.prog 3 i.args .normal) [] (w.forCall tape i)) := by
 have hx : (DataW.whole enc Tryz.prog ((World.laidAll Tryz.prog os Rows.modmergeMergeUptoRow.laid).forCall (fun _ _ => 0) ⟨#[], #[.agg #[.string ⟨#[]⟩, .slice none 0 0, .slice none 0 0], .agg #[.string ⟨#[]⟩, .slice none 0 0, .slice none 0 0], .agg #[.string ⟨#[]⟩, .slice none 0 0, .slice none 0 0]], []⟩).memory Tryz.f3.params.toList Rows.modmergeMergeSpec.vars false #[.agg #[.string ⟨#[]⟩, .slice none 0 0, .slice none 0 0], .agg #[.string ⟨#[]⟩, .slice none 0 0, .slice none 0 0], .agg #[.string ⟨#[]⟩, .slice none 0 0, .slice none 0 0]].toList 8).map (fun x => Rows.uptoSmall H (x.1 ++ x.2.1)) = some true := by kernel_rfl
 obtain ⟨x, hx1, hx2⟩ := Option.map_eq_some_iff.1 hx; have hok : Input.okWideB Tryz.prog ((World.laidAll Tryz.prog os Rows.modmergeMergeUptoRow.laid).forCall (fun _ _ => 0) ⟨#[], #[.agg #[.string ⟨#[]⟩, .slice none 0 0, .slice none 0 0], .agg #[.string ⟨#[]⟩, .slice none 0 0, .slice none 0 0], .agg #[.string ⟨#[]⟩, .slice none 0 0, .slice none 0 0]], []⟩) 3 ⟨#[], #[.agg #[.string ⟨#[]⟩, .slice none 0 0, .slice none 0 0], .agg #[.string ⟨#[]⟩, .slice none 0 0, .slice none 0 0], .agg #[.string ⟨#[]⟩, .slice none 0 0, .slice none 0 0]], []⟩ = true := by kernel_rfl
 refine ⟨World.laidAll Tryz.prog os Rows.modmergeMergeUptoRow.laid, fun _ _ => 0, ⟨#[], #[.agg #[.string ⟨#[]⟩, .slice none 0 0, .slice none 0 0], .agg #[.string ⟨#[]⟩, .slice none 0 0, .slice none 0 0], .agg #[.string ⟨#[]⟩, .slice none 0 0, .slice none 0 0]], []⟩, World.laidAll_os _ _ _, World.shaped_of_ZipB (by kernel_rfl) (by kernel_rfl), (Input.okWide_of_okWideB (base := 0) hok).1, (Input.okWide_of_okWideB hok).2, ?_, ?_⟩
 ·exact OpenSpec.preRow_of_cond 8 hx1 rfl (fun k hk => by cases hk; exact hx2) (by kernel_rfl) (by rw [MakeChecks.laidMetH_plain _ _ _ (by kernel_rfl)]; exact laidMet_laidAll _ (by kernel_rfl) (by kernel_rfl))
 ·simp only [Assume.holds]
  exact ⟨by simp, by simp, fun _ => Modest.zero, by simp, by simp⟩
theorem modmergeMerge_bulk {H : Type} {B : Nat} {x : DataW H} {l gs : List (DataW H)} (h : Rows.uptoSmall H (l ++ gs) = true) (hx : x ∈ l) (hB : 1048576 ≤ B) : Rows.uptoBulk x ≤ B := by
 have h1 := of_decide_eq_true h; rw [bulkAll_sum] at h1; have h2 := mem_sum (List.mem_map.2 ⟨x, List.mem_append_left gs hx, rfl⟩ : Rows.uptoBulk x ∈ (l ++ gs).map Rows.uptoBulk); omega
set_option maxRecDepth 100000 in
theorem modmergeMerge_lifted (os : Os) (started : os.Started) (H : Type) (enc : TypeId × Value → H) (F : Stop.Interp) :
  ReturnsInHanded {} Tryz.checked os 3 .any ((Rows.OpenSpec.upto Rows.modmergeMergeSpec).preRow enc Tryz.prog Tryz.f3 Rows.modmergeMergeUptoRow.domain false Rows.modmergeMergeUptoRow.laid) (((Rows.OpenSpec.upto Rows.modmergeMergeSpec).at F).post enc Tryz.prog Tryz.f3 false true false false) := by
 refine returnsInHanded_of_row (C := Tryz.checked) (s := Rows.OpenSpec.upto Rows.modmergeMergeSpec) ownK started (by kernel_rfl) Tryz.func3 (modmergeMerge_witness os H enc) ?_; intro W base args ds gs before hval0 hW _ hcond _ _ _ _; have hval : ∀ (j : Nat) t v, Tryz.f3.params[j]? = some t → args[j]? = some v → Value.okWide Tryz.prog W .any base t v := hval0; have hW' := hW; have hk : Rows.uptoSmall H (ds ++ gs) = true := hcond _ rfl; obtain ⟨p, q, hA, hV, _, _, _⟩ := hW; rw [modmergeMerge_params] at hA hval
 obtain ⟨v0, v1, v2, d0, d1, d2, p0, p1, p2, rfl, rfl, rfl, h0, h1, h2⟩ := trodAll_three hA; obtain ⟨c0, rfl, _⟩ := okWide_struct Tryz.underlying25 (hval 0 25 v0 rfl rfl); obtain ⟨fuel0, hf0⟩ := h0; obtain ⟨x0, r0, z0⟩ := opb_mod _ _ _ hf0; obtain ⟨au0, cu0, ad0, cd0, e0, i0⟩ := mod_in r0; obtain rfl : c0 = (mA x0 au0 cu0 ad0 cd0) := Array.toList_inj.1 e0; have b0 := modB_big z0 (modmergeMerge_bulk (B := 4000000) hk (by simp) (by omega)); obtain ⟨c1, rfl, _⟩ := okWide_struct Tryz.underlying25 (hval 1 25 v1 rfl rfl); obtain ⟨fuel1, hf1⟩ := h1; obtain ⟨x1, r1, z1⟩ := opb_mod _ _ _ hf1
 obtain ⟨au1, cu1, ad1, cd1, e1, i1⟩ := mod_in r1; obtain rfl : c1 = (mA x1 au1 cu1 ad1 cd1) := Array.toList_inj.1 e1; have b1 := modB_big z1 (modmergeMerge_bulk (B := 4000000) hk (by simp) (by omega)); obtain ⟨c2, rfl, _⟩ := okWide_struct Tryz.underlying25 (hval 2 25 v2 rfl rfl); obtain ⟨fuel2, hf2⟩ := h2; obtain ⟨x2, r2, z2⟩ := opb_mod _ _ _ hf2; obtain ⟨au2, cu2, ad2, cd2, e2, i2⟩ := mod_in r2; obtain rfl : c2 = (mA x2 au2 cu2 ad2 cd2) := Array.toList_inj.1 e2; have b2 := modB_big z2 (modmergeMerge_bulk (B := 4000000) hk (by simp) (by omega))
 refine (LModmergeMerge_any x0 x1 x2 au0 ad0 au1 ad1 au2 ad2 cu0 cd0 cu1 cd1 cu2 cd2 W i0 i1 i2 b0 b1 b2).mono fun e W' ⟨he, hbl⟩ => ?_; subst he
 exact ⟨_, rfl, law_post rfl (by kernel_rfl) (fun t ht => by
  rw [modmergeMerge_params] at ht; have ht' : t ∈ [25, 25, 25] := ht; simp only [List.mem_cons, List.not_mem_nil, or_false] at ht'
  rcases ht' with rfl | rfl | rfl <;> exact ⟨by kernel_rfl, of_decide_eq_true (by kernel_rfl)⟩) hW' (fun h => by rw [h]; rfl) hbl⟩
theorem modmergeMerge_holds : Rows.ModmergeMergeUptoSaid :=
 OpenClaim.holds_of_cond 3 Tryz.f3 rfl rfl rfl rfl rfl rfl rfl ⟨rfl, rfl, rfl, rfl, rfl⟩ rfl rfl rfl rfl rfl (by kernel_rfl) Tryz.func3 (by kernel_rfl)
  (of_decide_eq_true (by kernel_rfl)) (by unfold Func.isWrapper; first | (rw [if_pos (by decide +kernel)]; kernel_rfl) | (rw [if_neg (by decide +kernel)]; exact ⟨rfl, rfl⟩))
  (fun os started H enc _ F => by rw [OpenClaim.pre_eq_preRow]; exact modmergeMerge_lifted os started H enc F)
theorem modmergeMerge_plain (f : FuncId) (fn : Func) (hf : Tryz.pinned.checked.prog.funcNamed "cordwood/cordwoodlaw33.ModmergeMerge" = some f) (hfn : Tryz.pinned.checked.prog.funcs[f]? = some fn) :
  false = Tryz.pinned.checked.prog.looks [] ∧ ∀ (j : Nat) t, fn.params[j]? = some t → Tryz.pinned.checked.prog.wantsStandIn t = false := by
 obtain rfl : f = 3 := Option.some.inj ((show Tryz.prog.funcNamed "cordwood/cordwoodlaw33.ModmergeMerge" = some 3 by kernel_rfl).symm.trans hf) |>.symm; obtain rfl : fn = Tryz.f3 := (Option.some.inj (Tryz.func3.symm.trans hfn)).symm; refine ⟨by kernel_rfl, fun j t hj => ?_⟩; have ht := List.mem_of_getElem? (Array.getElem?_toList.trans hj); rw [modmergeMerge_params] at ht; have ht' : t ∈ [25, 25, 25] := ht; simp only [List.mem_cons, List.not_mem_nil, or_false] at ht'
 rcases ht' with rfl | rfl | rfl
 ·exact (show Tryz.prog.wantsStandIn 25 = false by kernel_rfl)
 ·exact (show Tryz.prog.wantsStandIn 25 = false by kernel_rfl)
 ·exact (show Tryz.prog.wantsStandIn 25 = false by kernel_rfl)
theorem modmergeMerge_card : Rows.ModmergeMergeUptoCardSaid :=
 Claim7.holds_tied_plain_at .later [] _ _ _ _ modmergeMerge_holds (fun _ h => by cases h) (by kernel_rfl) (fun _ h => by cases h) modmergeMergeUpto_row_tie rfl ⟨rfl, rfl⟩ (by kernel_rfl) rfl modmergeMerge_plain (by kernel_rfl)
#print axioms modmergeMerge_card
end Go.Proofs.YtlgnedahnaojlaaGreatDoor

