/- ModmergeFields: true, and its arguments read as before, where what it reads is of the bulk of the second form: the tied card. -/
import Derived.Test.YtlgnedahnaojlaaGreatDoorUFin
import Derived.Test.YtlgnedahnaojlaaGreatDoorUG5
import Derived.Test.YtlgnedahnaojlaaGreatDoorULwModmergeFields
import Derived.Deep.DeepHandedRow
namespace Go.Proofs.YtlgnedahnaojlaaGreatDoor
open Go.RowKit Go.ChangeShapes Go.WideShapes Go.ChangeAt

section
variable {H : Type} {enc : TypeId × Value → H} {P : Program} {w : World} {base : Nat} {spare : Nat → Bool} {held : Bool}
theorem trodAll_five {t0 t1 t2 t3 t4 : TypeId} {args : Array Value} {ds : List (DataW H)} {ps : List MemPlace} (h : DataW.TrodAll enc P w base spare held [t0, t1, t2, t3, t4] args.toList ds ps) :
  ∃ v0 v1 v2 v3 v4 d0 d1 d2 d3 d4 p0 p1 p2 p3 p4, args = #[v0, v1, v2, v3, v4] ∧ ds = [d0, d1, d2, d3, d4] ∧ ps = p0 ++ p1 ++ p2 ++ p3 ++ p4 ∧ DataW.Trod enc P w base spare held t0 v0 d0 p0 ∧ DataW.Trod enc P w base spare held t1 v1 d1 p1 ∧ DataW.Trod enc P w base spare held t2 v2 d2 p2 ∧ DataW.Trod enc P w base spare held t3 v3 d3 p3 ∧ DataW.Trod enc P w base spare held t4 v4 d4 p4 := by
 obtain ⟨v0, vs0, d0, ds0, p0, q0, hargs, rfl, rfl, h0, r0⟩ := trodAll_cons h; obtain ⟨v1, vs1, d1, ds1, p1, q1, rfl, rfl, rfl, h1, r1⟩ := trodAll_cons r0; obtain ⟨v2, vs2, d2, ds2, p2, q2, rfl, rfl, rfl, h2, r2⟩ := trodAll_cons r1; obtain ⟨v3, vs3, d3, ds3, p3, q3, rfl, rfl, rfl, h3, r3⟩ := trodAll_cons r2; obtain ⟨v4, vs4, d4, ds4, p4, q4, rfl, rfl, rfl, h4, r4⟩ := trodAll_cons r3; obtain ⟨rfl, rfl, rfl⟩ := trodAll_nil r4; exact ⟨v0, v1, v2, v3, v4, d0, d1, d2, d3, d4, p0, p1, p2, p3, p4, by cases args; simp_all, rfl, by simp, h0, h1, h2, h3, h4⟩
end
theorem modmergeFields_params : Tryz.f8.params = #[25, 5, 9, 41, 4] := Tryz.params8
theorem modmergeFields_witness (os : Os) (H : Type) (enc : TypeId × Value → H) : ∃ (w : World) (tape : Tape) (i : Input), w.os = os ∧ (w.forCall tape i).Shaped Tryz.checked.prog ∧ i.vars = [] ∧ Input.okWide Tryz.checked.prog (w.forCall tape i) .any w.heap.size 8 i ∧
  (Rows.OpenSpec.upto Rows.modmergeFieldsSpec).preRow enc Tryz.checked.prog Tryz.f8 Rows.modmergeFieldsUptoRow.domain false Rows.modmergeFieldsUptoRow.laid (w.forCall tape i).memory i.args ∧ ({} : Assume).holds Tryz.checked.prog (lone (Frame.enter Tryz.checked.prog 8 i.args .normal) [] (w.forCall tape i)) := by
 have hx : (DataW.whole enc Tryz.prog ((World.laidAll Tryz.prog os Rows.modmergeFieldsUptoRow.laid).forCall (fun _ _ => 0) ⟨#[], #[.agg #[.string ⟨#[]⟩, .slice none 0 0, .slice none 0 0], .int .u8 0, .string ⟨#[]⟩, .agg #[.int .i64 0, .string ⟨#[]⟩, .string ⟨#[]⟩, .int .i64 0, .int .i64 0, .slice none 0 0], .bool false], []⟩).memory Tryz.f8.params.toList Rows.modmergeFieldsSpec.vars false #[.agg #[.string ⟨#[]⟩, .slice none 0 0, .slice none 0 0], .int .u8 0, .string ⟨#[]⟩, .agg #[.int .i64 0, .string ⟨#[]⟩, .string ⟨#[]⟩, .int .i64 0, .int .i64 0, .slice none 0 0], .bool false].toList 8).map (fun x => Rows.uptoSmall H (x.1 ++ x.2.1)) = some true := by kernel_rfl
 obtain ⟨x, hx1, hx2⟩ := Option.map_eq_some_iff.1 hx
 have hok : Input.okWideB Tryz.prog ((World.laidAll Tryz.prog os Rows.modmergeFieldsUptoRow.laid).forCall (fun _ _ => 0) ⟨#[], #[.agg #[.string ⟨#[]⟩, .slice none 0 0, .slice none 0 0], .int .u8 0, .string ⟨#[]⟩, .agg #[.int .i64 0, .string ⟨#[]⟩, .string ⟨#[]⟩, .int .i64 0, .int .i64 0, .slice none 0 0], .bool false], []⟩) 8 ⟨#[], #[.agg #[.string ⟨#[]⟩, .slice none 0 0, .slice none 0 0], .int .u8 0, .string ⟨#[]⟩, .agg #[.int .i64 0, .string ⟨#[]⟩, .string ⟨#[]⟩, .int .i64 0, .int .i64 0, .slice none 0 0], .bool false], []⟩ = true := by kernel_rfl
 refine ⟨World.laidAll Tryz.prog os Rows.modmergeFieldsUptoRow.laid, fun _ _ => 0, ⟨#[], #[.agg #[.string ⟨#[]⟩, .slice none 0 0, .slice none 0 0], .int .u8 0, .string ⟨#[]⟩, .agg #[.int .i64 0, .string ⟨#[]⟩, .string ⟨#[]⟩, .int .i64 0, .int .i64 0, .slice none 0 0], .bool false], []⟩, World.laidAll_os _ _ _, World.shaped_of_ZipB (by kernel_rfl) (by kernel_rfl), (Input.okWide_of_okWideB (base := 0) hok).1, (Input.okWide_of_okWideB hok).2, ?_, ?_⟩
 ·exact OpenSpec.preRow_of_cond 8 hx1 rfl (fun k hk => by cases hk; exact hx2) (by kernel_rfl) (by rw [MakeChecks.laidMetH_plain _ _ _ (by kernel_rfl)]; exact laidMet_laidAll _ (by kernel_rfl) (by kernel_rfl))
 ·simp only [Assume.holds]
  exact ⟨by simp, by simp, fun _ => Modest.zero, by simp, by simp⟩
theorem modmergeFields_bulk {H : Type} {B : Nat} {x : DataW H} {l gs : List (DataW H)} (h : Rows.uptoSmall H (l ++ gs) = true) (hx : x ∈ l) (hB : 1048576 ≤ B) : Rows.uptoBulk x ≤ B := by
 have h1 := of_decide_eq_true h; rw [bulkAll_sum] at h1; have h2 := mem_sum (List.mem_map.2 ⟨x, List.mem_append_left gs hx, rfl⟩ : Rows.uptoBulk x ∈ (l ++ gs).map Rows.uptoBulk); omega
set_option maxRecDepth 100000 in
theorem modmergeFields_lifted (os : Os) (started : os.Started) (H : Type) (enc : TypeId × Value → H) (F : Stop.Interp) :
  ReturnsInHanded {} Tryz.checked os 8 .any ((Rows.OpenSpec.upto Rows.modmergeFieldsSpec).preRow enc Tryz.prog Tryz.f8 Rows.modmergeFieldsUptoRow.domain false Rows.modmergeFieldsUptoRow.laid) (((Rows.OpenSpec.upto Rows.modmergeFieldsSpec).at F).post enc Tryz.prog Tryz.f8 false true false false) := by
 refine returnsInHanded_of_row (C := Tryz.checked) (s := Rows.OpenSpec.upto Rows.modmergeFieldsSpec) ownK started (by kernel_rfl) Tryz.func8 (modmergeFields_witness os H enc) ?_; intro W base args ds gs before hval0 hW _ hcond _ _ _ _; have hval : ∀ (j : Nat) t v, Tryz.f8.params[j]? = some t → args[j]? = some v → Value.okWide Tryz.prog W .any base t v := hval0; have hW' := hW; have hk : Rows.uptoSmall H (ds ++ gs) = true := hcond _ rfl; obtain ⟨p, q, hA, hV, _, _, _⟩ := hW; rw [modmergeFields_params] at hA hval
 obtain ⟨v0, v1, v2, v3, v4, d0, d1, d2, d3, d4, p0, p1, p2, p3, p4, rfl, rfl, rfl, h0, h1, h2, h3, h4⟩ := trodAll_five hA; obtain ⟨c0, rfl, _⟩ := okWide_struct Tryz.underlying25 (hval 0 25 v0 rfl rfl); obtain ⟨fuel0, hf0⟩ := h0; obtain ⟨x0, r0, z0⟩ := opb_mod _ _ _ hf0; obtain ⟨au0, cu0, ad0, cd0, e0, i0⟩ := mod_in r0; obtain rfl : c0 = (mA x0 au0 cu0 ad0 cd0) := Array.toList_inj.1 e0; have b0 := modB_big z0 (modmergeFields_bulk (B := 4000000) hk (by simp) (by omega)); obtain ⟨y1, rfl, rfl, rfl, z1⟩ := open_int Tryz.underlying5 (hval 1 5 v1 rfl rfl) h1
 simp [Lit.wf, IntKind.min, IntKind.max, IntKind.signed, IntKind.bits] at z1
 obtain ⟨x1, rfl⟩ := Int.eq_ofNat_of_zero_le (show 0 ≤ y1 by omega); obtain ⟨y2, rfl⟩ := okWide_string Tryz.underlying9 (hval 2 9 v2 rfl rfl); obtain ⟨fuel2, hf2⟩ := h2; obtain ⟨x2, r2, z2⟩ := opb_str _ _ _ hf2; obtain rfl : y2 = x2 := by have := Reads.leafv (ReadsL.one r2); injection this
 have z2' : y2.size + 1 ≤ Rows.uptoBulk d2 := z2; have b2 : y2.size ≤ 4000000 := by have := modmergeFields_bulk (B := 4000000) hk (show d2 ∈ _ by simp) (by omega); omega
 obtain ⟨c3, rfl, _⟩ := okWide_struct Tryz.underlying41 (hval 3 41 v3 rfl rfl); obtain ⟨fuel3, hf3⟩ := h3; obtain ⟨x3, r3, z3⟩ := opb_expr _ _ _ hf3; obtain ⟨ax3, cx3, e3, g3, g3', r3'⟩ := expr_cells r3; obtain rfl : c3 = (xA x3 ax3 cx3) := Array.toList_inj.1 e3; have u3 := modmergeFields_bulk (B := 4000000) hk (show d3 ∈ _ by simp) (by omega); have z3a : nodesN x3 ≤ Rows.uptoBulk d3 := z3.1; have z3b : SmX (Rows.uptoBulk d3) x3 := z3.2; obtain ⟨x4, rfl, rfl, rfl⟩ := open_bool Tryz.underlying4 (hval 4 4 v4 rfl rfl) h4
 refine (LModmergeFields_any x0 x1 y2 x3 x4 au0 ad0 ax3 cu0 cd0 cx3 W i0 ⟨r3', g3, g3'⟩ b0 b2 (z3b.mono (by omega)) (by omega) (by omega)).mono fun e W' ⟨he, hbl⟩ => ?_; subst he
 exact ⟨_, rfl, law_post rfl (by kernel_rfl) (fun t ht => by
  rw [modmergeFields_params] at ht; have ht' : t ∈ [25, 5, 9, 41, 4] := ht; simp only [List.mem_cons, List.not_mem_nil, or_false] at ht'
  rcases ht' with rfl | rfl | rfl | rfl | rfl <;> exact ⟨by kernel_rfl, of_decide_eq_true (by kernel_rfl)⟩) hW' (fun h => by rw [h]; rfl) hbl⟩
theorem modmergeFields_holds : Rows.ModmergeFieldsUptoSaid :=
 OpenClaim.holds_of_cond 8 Tryz.f8 rfl rfl rfl rfl rfl rfl rfl ⟨rfl, rfl, rfl, rfl, rfl⟩ rfl rfl rfl rfl rfl (by kernel_rfl) Tryz.func8 (by kernel_rfl)
  (of_decide_eq_true (by kernel_rfl)) (by unfold Func.isWrapper; first | (rw [if_pos (by decide +kernel)]; kernel_rfl) | (rw [if_neg (by decide +kernel)]; exact ⟨rfl, rfl⟩))
  (fun os started H enc _ F => by rw [OpenClaim.pre_eq_preRow]; exact modmergeFields_lifted os started H enc F)
theorem modmergeFields_plain (f : FuncId) (fn : Func) (hf : Tryz.pinned.checked.prog.funcNamed "cordwood/cordwoodlaw33.ModmergeFields" = some f) (hfn : Tryz.pinned.checked.prog.funcs[f]? = some fn) :
  false = Tryz.pinned.checked.prog.looks [] ∧ ∀ (j : Nat) t, fn.params[j]? = some t → Tryz.pinned.checked.prog.wantsStandIn t = false := by
 obtain rfl : f = 8 := Option.some.inj ((show Tryz.prog.funcNamed "cordwood/cordwoodlaw33.ModmergeFields" = some 8 by kernel_rfl).symm.trans hf) |>.symm; obtain rfl : fn = Tryz.f8 := (Option.some.inj (Tryz.func8.symm.trans hfn)).symm; refine ⟨by kernel_rfl, fun j t hj => ?_⟩; have ht := List.mem_of_getElem? (Array.getElem?_toList.trans hj); rw [modmergeFields_params] at ht; have ht' : t ∈ [25, 5, 9, 41, 4] := ht; simp only [List.mem_cons, List.not_mem_nil, or_false] at ht'
 rcases ht' with rfl | rfl | rfl | rfl | rfl
 ·exact (show Tryz.prog.wantsStandIn 25 = false by kernel_rfl)
 ·exact (show Tryz.prog.wantsStandIn 5 = false by kernel_rfl)
 ·exact (show Tryz.prog.wantsStandIn 9 = false by kernel_rfl)
 ·exact (show Tryz.prog.wantsStandIn 41 = false by kernel_rfl)
 ·exact (show Tryz.prog.wantsStandIn 4 = false by kernel_rfl)
theorem modmergeFields_card : Rows.ModmergeFieldsUptoCardSaid :=
 Claim7.holds_tied_plain_at .later [] _ _ _ _ modmergeFields_holds (fun _ h => by cases h) (by kernel_rfl) (fun _ h => by cases h) modmergeFieldsUpto_row_tie rfl ⟨rfl, rfl⟩ (by kernel_rfl) rfl modmergeFields_plain (by kernel_rfl)
#print axioms modmergeFields_card
end Go.Proofs.YtlgnedahnaojlaaGreatDoor

