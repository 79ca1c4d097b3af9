/- ModmergeFewer: true, and its arguments read as before, where what it reads is of the bulk of the second form: the tied card. -/
import Derived.Test.YtlgnedahnaojlaaGreatDoorFFin
import Derived.Test.YtlgnedahnaojlaaGreatDoorFG5
import Derived.Test.YtlgnedahnaojlaaGreatDoorFLwModmergeFewer
import Derived.Deep.DeepHandedRow
import Derived.Lib.LaidTab
import Derived.Stop.LaidErr
namespace Go.Proofs.YtlgnedahnaojlaaGreatDoor
open Go.RowKit Go.ChangeShapes Go.WideShapes Go.ChangeAt

theorem modmergeFewer_params : Tryz.f10.params = #[25, 5, 5] := Tryz.params10
theorem modmergeFewer_witness (os : Os) (H : Type) (enc : TypeId × Value → H) : ∃ (w : World) (tape : Tape) (i : Input), w.os = os ∧ (w.forCall tape i).Shaped Tryz.checked.prog ∧ i.vars = [] ∧ Input.okWide Tryz.checked.prog (w.forCall tape i) .any w.heap.size 10 i ∧
  (Rows.OpenSpec.upto Rows.modmergeFewerSpec).preRow enc Tryz.checked.prog Tryz.f10 Rows.modmergeFewerUptoRow.domain false Rows.modmergeFewerUptoRow.laid (w.forCall tape i).memory i.args ∧ ({} : Assume).holds Tryz.checked.prog (lone (Frame.enter Tryz.checked.prog 10 i.args .normal) [] (w.forCall tape i)) := by
 have hx : (DataW.whole enc Tryz.prog ((World.laidAll Tryz.prog os Rows.modmergeFewerUptoRow.laid).forCall (fun _ _ => 0) ⟨#[], #[.agg #[.string ⟨#[]⟩, .slice none 0 0, .slice none 0 0], .int .u8 0, .int .u8 0], []⟩).memory Tryz.f10.params.toList Rows.modmergeFewerSpec.vars false #[.agg #[.string ⟨#[]⟩, .slice none 0 0, .slice none 0 0], .int .u8 0, .int .u8 0].toList 8).map (fun x => Rows.uptoSmall H (x.1 ++ x.2.1)) = some true := by kernel_rfl
 obtain ⟨x, hx1, hx2⟩ := Option.map_eq_some_iff.1 hx; have hok : Input.okWideB Tryz.prog ((World.laidAll Tryz.prog os Rows.modmergeFewerUptoRow.laid).forCall (fun _ _ => 0) ⟨#[], #[.agg #[.string ⟨#[]⟩, .slice none 0 0, .slice none 0 0], .int .u8 0, .int .u8 0], []⟩) 10 ⟨#[], #[.agg #[.string ⟨#[]⟩, .slice none 0 0, .slice none 0 0], .int .u8 0, .int .u8 0], []⟩ = true := by kernel_rfl
 refine ⟨World.laidAll Tryz.prog os Rows.modmergeFewerUptoRow.laid, fun _ _ => 0, ⟨#[], #[.agg #[.string ⟨#[]⟩, .slice none 0 0, .slice none 0 0], .int .u8 0, .int .u8 0], []⟩, World.laidAll_os _ _ _, World.shaped_of_ZipB (by kernel_rfl) (by kernel_rfl), (Input.okWide_of_okWideB (base := 0) hok).1, (Input.okWide_of_okWideB hok).2, ?_, ?_⟩
 ·exact OpenSpec.preRow_of_cond 8 hx1 rfl (fun k hk => by cases hk; exact hx2) (by kernel_rfl) (by rw [MakeChecks.laidMetH_plain _ _ _ (by kernel_rfl)]; exact laidMet_laidAll _ (by kernel_rfl) (by kernel_rfl))
 ·simp only [Assume.holds]
  exact ⟨by simp, by simp, fun _ => Modest.zero, by simp, by simp⟩
theorem modmergeFewer_bulk {H : Type} {B : Nat} {x : DataW H} {l gs : List (DataW H)} (h : Rows.uptoSmall H (l ++ gs) = true) (hx : x ∈ l) (hB : 1048576 ≤ B) : Rows.uptoBulk x ≤ B := by
 have h1 := of_decide_eq_true h; rw [bulkAll_sum] at h1; have h2 := mem_sum (List.mem_map.2 ⟨x, List.mem_append_left gs hx, rfl⟩ : Rows.uptoBulk x ∈ (l ++ gs).map Rows.uptoBulk); omega
theorem modmergeFewer_tab {W : World} (h : laidMetH Tryz.prog Rows.modmergeFewerUptoRow.laid W) : Lib.TabIs Tryz.prog W "internal/strconv.uint64pow10" .u64 Lib.pow10Tab := by
 rw [MakeChecks.laidMetH_plain _ _ _ (by kernel_rfl)] at h; have h2 : laidMet Tryz.prog (("internal/strconv.uint64pow10", Rows.laid_internal_strconv_uint64pow10) :: [("unicode/utf8.acceptRanges", Rows.laid_unicode_utf8_acceptRanges), ("unicode/utf8.first", Rows.laid_unicode_utf8_first)]) W := h.tail.tail; have e : (Rows.laid_internal_strconv_uint64pow10 : DataW Unit) = Lib.tabData .u64 Lib.pow10Tab := by kernel_rfl
 rw [e] at h2; exact Lib.tabIs_of_head (g := 3) (t := 221) (e := 173) (n := 20) (by kernel_rfl) (by kernel_rfl) (by kernel_rfl) Tryz.underlying173 (by kernel_rfl) (by kernel_rfl) h2
set_option maxRecDepth 100000 in
theorem modmergeFewer_lifted (os : Os) (started : os.Started) (H : Type) (enc : TypeId × Value → H) (F : Stop.Interp) :
  ReturnsInHanded {} Tryz.checked os 10 .any ((Rows.OpenSpec.upto Rows.modmergeFewerSpec).preRow enc Tryz.prog Tryz.f10 Rows.modmergeFewerUptoRow.domain false Rows.modmergeFewerUptoRow.laid) (((Rows.OpenSpec.upto Rows.modmergeFewerSpec).at F).post enc Tryz.prog Tryz.f10 false true false false) := by
 refine returnsInHanded_of_row (C := Tryz.checked) (s := Rows.OpenSpec.upto Rows.modmergeFewerSpec) ownK started (by kernel_rfl) Tryz.func10 (modmergeFewer_witness os H enc) ?_; intro W base args ds gs before hval0 hW _ hcond _ hlaid _ _; have hval : ∀ (j : Nat) t v, Tryz.f10.params[j]? = some t → args[j]? = some v → Value.okWide Tryz.prog W .any base t v := hval0; have hW' := hW; have hk : Rows.uptoSmall H (ds ++ gs) = true := hcond _ rfl; obtain ⟨p, q, hA, hV, _, _, _⟩ := hW; rw [modmergeFewer_params] at hA hval
 obtain ⟨v0, v1, v2, d0, d1, d2, p0, p1, p2, rfl, rfl, rfl, h0, h1, h2⟩ := trodAll_three hA; obtain ⟨c0, rfl, _⟩ := okWide_struct Tryz.underlying25 (hval 0 25 v0 rfl rfl); obtain ⟨fuel0, hf0⟩ := h0; obtain ⟨x0, r0, z0⟩ := opb_mod _ _ _ hf0; obtain ⟨au0, cu0, ad0, cd0, e0, i0⟩ := mod_in r0; obtain rfl : c0 = #[.string x0.label, .slice au0 x0.uses.length cu0, .slice ad0 x0.decls.length cd0] := Array.toList_inj.1 e0; have b0 := modB_big z0 (modmergeFewer_bulk (B := 4000000) hk (by simp) (by omega)); obtain ⟨y1, rfl, rfl, rfl, z1⟩ := open_int Tryz.underlying5 (hval 1 5 v1 rfl rfl) h1
 simp [Lit.wf, IntKind.min, IntKind.max, IntKind.signed, IntKind.bits] at z1
 obtain ⟨x1, rfl⟩ := Int.eq_ofNat_of_zero_le (show 0 ≤ y1 by omega); obtain ⟨y2, rfl, rfl, rfl, z2⟩ := open_int Tryz.underlying5 (hval 2 5 v2 rfl rfl) h2; simp [Lit.wf, IntKind.min, IntKind.max, IntKind.signed, IntKind.bits] at z2
 obtain ⟨x2, rfl⟩ := Int.eq_ofNat_of_zero_le (show 0 ≤ y2 by omega); refine (LModmergeFewer_any x0 x1 x2 au0 ad0 cu0 cd0 W i0 b0 (by omega) (by omega) (modmergeFewer_tab hlaid)).mono fun e W' ⟨he, hbl⟩ => ?_; subst he
 exact ⟨_, rfl, law_post rfl (by kernel_rfl) (fun t ht => by
  rw [modmergeFewer_params] at ht; have ht' : t ∈ [25, 5, 5] := ht; simp only [List.mem_cons, List.not_mem_nil, or_false] at ht'
  rcases ht' with rfl | rfl | rfl <;> exact ⟨by kernel_rfl, of_decide_eq_true (by kernel_rfl)⟩) hW' (fun h => by rw [h]; rfl) hbl⟩
theorem modmergeFewer_holds : Rows.ModmergeFewerUptoSaid :=
 OpenClaim.holds_of_cond 10 Tryz.f10 rfl rfl rfl rfl rfl rfl rfl ⟨rfl, rfl, rfl, rfl, rfl⟩ rfl rfl rfl rfl rfl (by kernel_rfl) Tryz.func10 (by kernel_rfl)
  (of_decide_eq_true (by kernel_rfl)) (by unfold Func.isWrapper; first | (rw [if_pos (by decide +kernel)]; kernel_rfl) | (rw [if_neg (by decide +kernel)]; exact ⟨rfl, rfl⟩))
  (fun os started H enc _ F => by rw [OpenClaim.pre_eq_preRow]; exact modmergeFewer_lifted os started H enc F)
theorem modmergeFewer_plain (f : FuncId) (fn : Func) (hf : Tryz.pinned.checked.prog.funcNamed "cordwood/cordwoodlaw33.ModmergeFewer" = some f) (hfn : Tryz.pinned.checked.prog.funcs[f]? = some fn) :
  false = Tryz.pinned.checked.prog.looks [] ∧ ∀ (j : Nat) t, fn.params[j]? = some t → Tryz.pinned.checked.prog.wantsStandIn t = false := by
 obtain rfl : f = 10 := Option.some.inj ((show Tryz.prog.funcNamed "cordwood/cordwoodlaw33.ModmergeFewer" = some 10 by kernel_rfl).symm.trans hf) |>.symm; obtain rfl : fn = Tryz.f10 := (Option.some.inj (Tryz.func10.symm.trans hfn)).symm; refine ⟨by kernel_rfl, fun j t hj => ?_⟩; have ht := List.mem_of_getElem? (Array.getElem?_toList.trans hj); rw [modmergeFewer_params] at ht; have ht' : t ∈ [25, 5, 5] := ht; simp only [List.mem_cons, List.not_mem_nil, or_false] at ht'
 rcases ht' with rfl | rfl | rfl
 ·exact (show Tryz.prog.wantsStandIn 25 = false by kernel_rfl)
 ·exact (show Tryz.prog.wantsStandIn 5 = false by kernel_rfl)
 ·exact (show Tryz.prog.wantsStandIn 5 = false by kernel_rfl)
theorem modmergeFewer_card : Rows.ModmergeFewerUptoCardSaid :=
 Claim7.holds_tied_plain_at .later [] _ _ _ _ modmergeFewer_holds (fun _ h => by cases h) (by kernel_rfl) (fun _ h => by cases h) modmergeFewerUpto_row_tie rfl ⟨rfl, rfl⟩ (by kernel_rfl) rfl modmergeFewer_plain (by kernel_rfl)
#print axioms modmergeFewer_card
end Go.Proofs.YtlgnedahnaojlaaGreatDoor

