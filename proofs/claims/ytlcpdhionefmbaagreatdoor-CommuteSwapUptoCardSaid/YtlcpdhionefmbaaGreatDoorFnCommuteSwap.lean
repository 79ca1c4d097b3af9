/- CommuteSwap: true, and its arguments read as before, where what it reads is of the bulk of the second form: the tied card. -/
import Derived.Test.YtlcpdhionefmbaaGreatDoorFin
import Derived.Test.YtlcpdhionefmbaaGreatDoorGA
import Derived.Test.YtlcpdhionefmbaaGreatDoorLwCommuteSwap
import Derived.Deep.DeepHandedRow
namespace Go.Proofs.YtlcpdhionefmbaaGreatDoor
open Go.RowKit Go.ChangeShapes Go.WideShapes Go.ChangeAt

theorem commuteSwap_params : Tryz.f4.params = #[24, 24, 26, 3, 3] := Tryz.params4
theorem commuteSwap_witness (os : Os) (H : Type) (enc : TypeId × Value → H) : ∃ (w : World) (tape : Tape) (i : Input), w.os = os ∧ (w.forCall tape i).Shaped Tryz.checked.prog ∧ i.vars = [] ∧ Input.okWide Tryz.checked.prog (w.forCall tape i) .any w.heap.size 4 i ∧
    (Rows.OpenSpec.upto Rows.commuteSwapSpec).preRow enc Tryz.checked.prog Tryz.f4 Rows.commuteSwapUptoRow.domain false Rows.commuteSwapUptoRow.laid (w.forCall tape i).memory i.args ∧ ({} : Assume).holds Tryz.checked.prog (lone (Frame.enter Tryz.checked.prog 4 i.args .normal) [] (w.forCall tape i)) := by
  have hx : (DataW.whole enc Tryz.prog ((World.laidAll Tryz.prog os Rows.commuteSwapUptoRow.laid).forCall (fun _ _ => 0) ⟨#[], #[.agg #[.int .i64 0, .string ⟨#[]⟩, .string ⟨#[]⟩, .slice none 0 0, .slice none 0 0], .agg #[.int .i64 0, .string ⟨#[]⟩, .string ⟨#[]⟩, .slice none 0 0, .slice none 0 0], .slice none 0 0, .int .i64 0, .int .i64 0], []⟩).memory Tryz.f4.params.toList Rows.commuteSwapSpec.vars false #[.agg #[.int .i64 0, .string ⟨#[]⟩, .string ⟨#[]⟩, .slice none 0 0, .slice none 0 0], .agg #[.int .i64 0, .string ⟨#[]⟩, .string ⟨#[]⟩, .slice none 0 0, .slice none 0 0], .slice none 0 0, .int .i64 0, .int .i64 0].toList 8).map (fun x => Rows.uptoSmall H (x.1 ++ x.2.1)) = some true := by kernel_rfl
  obtain ⟨x, hx1, hx2⟩ := Option.map_eq_some_iff.1 hx
  have hok : Input.okWideB Tryz.prog ((World.laidAll Tryz.prog os Rows.commuteSwapUptoRow.laid).forCall (fun _ _ => 0) ⟨#[], #[.agg #[.int .i64 0, .string ⟨#[]⟩, .string ⟨#[]⟩, .slice none 0 0, .slice none 0 0], .agg #[.int .i64 0, .string ⟨#[]⟩, .string ⟨#[]⟩, .slice none 0 0, .slice none 0 0], .slice none 0 0, .int .i64 0, .int .i64 0], []⟩) 4 ⟨#[], #[.agg #[.int .i64 0, .string ⟨#[]⟩, .string ⟨#[]⟩, .slice none 0 0, .slice none 0 0], .agg #[.int .i64 0, .string ⟨#[]⟩, .string ⟨#[]⟩, .slice none 0 0, .slice none 0 0], .slice none 0 0, .int .i64 0, .int .i64 0], []⟩ = true := by kernel_rfl
  refine ⟨World.laidAll Tryz.prog os Rows.commuteSwapUptoRow.laid, fun _ _ => 0, ⟨#[], #[.agg #[.int .i64 0, .string ⟨#[]⟩, .string ⟨#[]⟩, .slice none 0 0, .slice none 0 0], .agg #[.int .i64 0, .string ⟨#[]⟩, .string ⟨#[]⟩, .slice none 0 0, .slice none 0 0], .slice none 0 0, .int .i64 0, .int .i64 0], []⟩, World.laidAll_os _ _ _, World.shaped_of_ZipB (by kernel_rfl) (by kernel_rfl), (Input.okWide_of_okWideB (base := 0) hok).1, (Input.okWide_of_okWideB hok).2, ?_, ?_⟩
  · exact OpenSpec.preRow_of_cond 8 hx1 rfl (fun k hk => by cases hk; exact hx2) (by kernel_rfl) (by rw [MakeChecks.laidMetH_plain _ _ _ (by kernel_rfl)]; exact laidMet_laidAll _ (by kernel_rfl) (by kernel_rfl))
  · simp only [Assume.holds]
    exact ⟨by simp, by simp, fun _ => Modest.zero, by simp, by simp⟩
theorem commuteSwap_bulk {H : Type} {B : Nat} {x : DataW H} {l gs : List (DataW H)} (h : Rows.uptoSmall H (l ++ gs) = true) (hx : x ∈ l) (hB : 1048576 ≤ B) : Rows.uptoBulk x ≤ B := by
  have h1 := of_decide_eq_true h
  rw [bulkAll_sum] at h1
  have h2 := mem_sum (List.mem_map.2 ⟨x, List.mem_append_left gs hx, rfl⟩ : Rows.uptoBulk x ∈ (l ++ gs).map Rows.uptoBulk)
  omega
set_option maxRecDepth 100000 in
theorem commuteSwap_lifted (os : Os) (started : os.Started) (H : Type) (enc : TypeId × Value → H) (F : Stop.Interp) :
    ReturnsInHanded {} Tryz.checked os 4 .any ((Rows.OpenSpec.upto Rows.commuteSwapSpec).preRow enc Tryz.prog Tryz.f4 Rows.commuteSwapUptoRow.domain false Rows.commuteSwapUptoRow.laid) (((Rows.OpenSpec.upto Rows.commuteSwapSpec).at F).post enc Tryz.prog Tryz.f4 false true false false) := by
  refine returnsInHanded_of_row (C := Tryz.checked) (s := Rows.OpenSpec.upto Rows.commuteSwapSpec) ownK started (by kernel_rfl) Tryz.func4 (commuteSwap_witness os H enc) ?_
  intro W base args ds gs before hval0 hW _ hcond _ _ _ _
  have hval : ∀ (j : Nat) t v, Tryz.f4.params[j]? = some t → args[j]? = some v → Value.okWide Tryz.prog W .any base t v := hval0
  have hW' := hW
  have hk : Rows.uptoSmall H (ds ++ gs) = true := hcond _ rfl
  obtain ⟨p, q, hA, hV, _, _, _⟩ := hW
  rw [commuteSwap_params] at hA hval
  obtain ⟨v0, v1, v2, v3, v4, d0, d1, d2, d3, d4, p0, p1, p2, p3, p4, rfl, rfl, rfl, h0, h1, h2, h3, h4⟩ := trodAll_five hA
  obtain ⟨c0, rfl, _⟩ := okWide_struct Tryz.underlying24 (hval 0 24 v0 rfl rfl)
  obtain ⟨fuel0, hf0⟩ := h0
  obtain ⟨x0, r0, z0⟩ := opb_edit _ _ _ hf0
  obtain ⟨ao0, co0, af0, cf0, e0, i0⟩ := edit_in r0
  obtain rfl : c0 = #[.int .i64 x0.kind, .string x0.pack, .string x0.text, .slice ao0 x0.old.length co0, .slice af0 x0.fresh.length cf0] := Array.toList_inj.1 e0
  have b0 := editB_big z0 (commuteSwap_bulk (B := 4000000) hk (by simp) (by omega))
  obtain ⟨c1, rfl, _⟩ := okWide_struct Tryz.underlying24 (hval 1 24 v1 rfl rfl)
  obtain ⟨fuel1, hf1⟩ := h1
  obtain ⟨x1, r1, z1⟩ := opb_edit _ _ _ hf1
  obtain ⟨ao1, co1, af1, cf1, e1, i1⟩ := edit_in r1
  obtain rfl : c1 = #[.int .i64 x1.kind, .string x1.pack, .string x1.text, .slice ao1 x1.old.length co1, .slice af1 x1.fresh.length cf1] := Array.toList_inj.1 e1
  have b1 := editB_big z1 (commuteSwap_bulk (B := 4000000) hk (by simp) (by omega))
  obtain ⟨a2, len2, cap2, rfl⟩ := okWide_slice Tryz.underlying26 (hval 2 26 v2 rfl rfl)
  obtain ⟨fuel2, hf2⟩ := h2
  obtain ⟨x2, q2, z2⟩ := opb_edits _ _ _ hf2
  have i2 := ReadsL.one q2
  obtain ⟨_, _, e2, _, _⟩ := edits_val i2
  obtain rfl : len2 = x2.length := by injection e2
  obtain ⟨b2, n2⟩ := edits_big z2 (commuteSwap_bulk (B := 4000000) hk (by simp) (by omega))
  obtain ⟨x3, rfl, rfl, rfl, z3⟩ := open_int Tryz.underlying3 (hval 3 3 v3 rfl rfl) h3
  obtain ⟨x4, rfl, rfl, rfl, z4⟩ := open_int Tryz.underlying3 (hval 4 3 v4 rfl rfl) h4
  refine (LCommuteSwap_any x0 x1 x2 x3 x4 ao0 co0 af0 cf0 ao1 co1 af1 cf1 a2 cap2 W i0 i1 i2 b0 b1 b2 n2).mono fun e W' ⟨he, hbl⟩ => ?_
  subst he
  exact ⟨_, rfl, law_post rfl (by kernel_rfl) (fun t ht => by
    rw [commuteSwap_params] at ht
    have ht' : t ∈ [24, 24, 26, 3, 3] := ht
    simp only [List.mem_cons, List.not_mem_nil, or_false] at ht'
    rcases ht' with rfl | rfl | rfl | rfl | rfl <;> exact ⟨by kernel_rfl, of_decide_eq_true (by kernel_rfl)⟩) hW' (fun h => by rw [h]; rfl) hbl⟩
theorem commuteSwap_holds : Rows.CommuteSwapUptoSaid :=
  OpenClaim.holds_of_cond 4 Tryz.f4 rfl rfl rfl rfl rfl rfl rfl ⟨rfl, rfl, rfl, rfl, rfl⟩ rfl rfl rfl rfl rfl (by kernel_rfl) Tryz.func4 (by kernel_rfl)
    (of_decide_eq_true (by kernel_rfl)) (by unfold Func.isWrapper; first | (rw [if_pos (by decide +kernel)]; kernel_rfl) | (rw [if_neg (by decide +kernel)]; exact ⟨rfl, rfl⟩))
    (fun os started H enc _ F => by rw [OpenClaim.pre_eq_preRow]; exact commuteSwap_lifted os started H enc F)
theorem commuteSwap_plain (f : FuncId) (fn : Func) (hf : Tryz.pinned.checked.prog.funcNamed "cordwood/cordwoodlaw35.CommuteSwap" = some f) (hfn : Tryz.pinned.checked.prog.funcs[f]? = some fn) :
    false = Tryz.pinned.checked.prog.looks [] ∧ ∀ (j : Nat) t, fn.params[j]? = some t → Tryz.pinned.checked.prog.wantsStandIn t = false := by
  obtain rfl : f = 4 := Option.some.inj ((show Tryz.prog.funcNamed "cordwood/cordwoodlaw35.CommuteSwap" = some 4 by kernel_rfl).symm.trans hf) |>.symm
  obtain rfl : fn = Tryz.f4 := (Option.some.inj (Tryz.func4.symm.trans hfn)).symm
  refine ⟨by kernel_rfl, fun j t hj => ?_⟩
  have ht := List.mem_of_getElem? (Array.getElem?_toList.trans hj)
  rw [commuteSwap_params] at ht
  have ht' : t ∈ [24, 24, 26, 3, 3] := ht
  simp only [List.mem_cons, List.not_mem_nil, or_false] at ht'
  rcases ht' with rfl | rfl | rfl | rfl | rfl
  · exact (show Tryz.prog.wantsStandIn 24 = false by kernel_rfl)
  · exact (show Tryz.prog.wantsStandIn 24 = false by kernel_rfl)
  · exact (show Tryz.prog.wantsStandIn 26 = false by kernel_rfl)
  · exact (show Tryz.prog.wantsStandIn 3 = false by kernel_rfl)
  · exact (show Tryz.prog.wantsStandIn 3 = false by kernel_rfl)
theorem commuteSwap_card : Rows.CommuteSwapUptoCardSaid :=
  Claim7.holds_tied_plain_at .later [] _ _ _ _ commuteSwap_holds (fun _ h => by cases h) (by kernel_rfl) (fun _ h => by cases h) commuteSwapUpto_row_tie rfl ⟨rfl, rfl⟩ (by kernel_rfl) rfl commuteSwap_plain (by kernel_rfl)
#print axioms commuteSwap_card
end Go.Proofs.YtlcpdhionefmbaaGreatDoor
