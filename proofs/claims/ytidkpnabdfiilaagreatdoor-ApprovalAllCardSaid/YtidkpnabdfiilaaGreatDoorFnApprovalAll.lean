/- ApprovalAll returns true for every input, and its arguments read as before: the tied card. No condition of ours. -/
import Derived.Test.YtidkpnabdfiilaaGreatDoorFin
import Derived.Test.YtidkpnabdfiilaaGreatDoorQ17
import Derived.Test.YtidkpnabdfiilaaGreatDoorOpB
import Derived.Test.YtidkpnabdfiilaaGreatDoorLwApprovalAll
import Derived.ChangeSlices
namespace Go.Proofs.YtidkpnabdfiilaaGreatDoor
open Go.RowKit Go.ChangeShapes Go.WideShapes Go.ChangeAt
open Go.ChangeMaps (open_string)

theorem open_picks {H : Type} {enc : TypeId × Value → H} {w : World} {base : Nat} {held : Bool} {fuel : Nat} {a : Option Addr} {len cap : Nat} {x : DataW H × List MemPlace} (h : DataW.trod enc Tryz.prog w base (fun _ => true) held fuel 66 [.slice a len cap] = some x) :
    ∃ gs : List Int, Picks w (.slice a len cap) gs := by
  rcases open_ints Tryz.underlying66 Tryz.underlying5 (by kernel_rfl) h with ⟨e, _⟩ | ⟨a', len', cap', zs, e, _, hl, hm, hzl, _, hc, hwf⟩
  · cases e
    exact ⟨[], none, 0, rfl, Nat.le_refl _, by omega, by simp, fun i hi => absurd hi (Nat.not_lt_zero _)⟩
  · cases e
    simp only [if_true] at hzl
    have hlen : (zs.take len).length = len := by rw [List.length_take]; omega
    refine ⟨zs.take len, some a', cap, by rw [hlen], by rw [hlen]; exact hl, by unfold maxLen at hm; omega, fun g hg => ?_, fun i hi => ?_⟩
    · have := hwf g (List.mem_of_mem_take hg)
      simp [Lit.wf, IntKind.min, IntKind.max, IntKind.signed, IntKind.bits] at this
      omega
    · rw [hlen] at hi
      have hci := hc i (by omega)
      have h0 := hc 0 (by omega)
      have hs : a'.spot = none := by
        have := World.cell?_spot h0
        simpa [Addr.add] using this
      obtain ⟨b, o, sp⟩ := a'
      simp only at hs
      subst hs
      refine ⟨b, o, rfl, lt_of_cell (o := o) (by simpa [Addr.add] using h0), ?_⟩
      have e1 : (zs.take len).getD i 0 = zs.getD i 0 := by
        rw [List.getD_eq_getElem?_getD, List.getD_eq_getElem?_getD, List.getElem?_take, if_pos hi]
      rw [e1]
      by_cases hi0 : i = 0
      · subst hi0; simpa [Addr.add] using hci
      · simpa [Addr.add, hi0] using hci
theorem approvalAll_params : Tryz.f10.params = #[22, 22, 3, 66] := Tryz.params10
set_option maxRecDepth 100000 in
theorem approvalAll_lifted (os : Os) (started : os.Started) (H : Type) (enc : TypeId × Value → H) :
    ReturnsInHanded {} Tryz.checked os 10 .any (fun w args => (Rows.approvalAllSpec.pre enc Tryz.prog Tryz.f10 [] false w args ∧ laidMetH Tryz.prog Rows.approvalAllRow.laid w) ∧ sizedMet enc Tryz.prog Tryz.f10 (OpenSpec.ofChange Rows.approvalAllSpec) false w args)
      (Rows.approvalAllSpec.post enc Tryz.prog Tryz.f10 false true false false) := by
  refine returnsInHanded_of_change_and (C := Tryz.checked) (X := fun w _ => laidMetH Tryz.prog Rows.approvalAllRow.laid w) (fun _ _ _ hh h => h.of_heap hh) ownK started (by kernel_rfl) Tryz.func10
    (ChangeSpec.witness_shaped (enc := enc) (C := Tryz.checked) (os := os) (X := fun w _ => laidMetH Tryz.prog Rows.approvalAllRow.laid w) false (World.laidAll Tryz.prog os Rows.approvalAllRow.laid) #[.slice none 0 0, .slice none 0 0, .int .i64 0, .slice none 0 0] 8 (World.laidAll_os _ _ _)
      (World.shaped_of_ZipB (by kernel_rfl) (by kernel_rfl)) (by kernel_rfl) (by kernel_rfl) (by kernel_rfl)
      (by rw [MakeChecks.laidMetH_plain _ _ _ (by kernel_rfl)]; exact laidMet_laidAll _ (by kernel_rfl) (by kernel_rfl))) ?_
  intro W base args ds gs before hval0 hW _ _ _ _
  have hval : ∀ (j : Nat) t v, Tryz.f10.params[j]? = some t → args[j]? = some v → Value.okWide Tryz.prog W .any base t v := hval0
  have hW' := hW
  obtain ⟨p, q, hA, hV, _, _, _⟩ := hW
  rw [approvalAll_params] at hA hval
  obtain ⟨v0, v1, v2, v3, d0, d1, d2, d3, p0, p1, p2, p3, rfl, rfl, rfl, h0, h1, h2, h3⟩ := trodAll_four hA
  obtain ⟨a0, len0, cap0, rfl⟩ := okWide_slice Tryz.underlying22 (hval 0 22 v0 rfl rfl)
  obtain ⟨fuel0, hf0⟩ := h0
  obtain ⟨x0, r0, z0⟩ := open_files _ _ _ hf0
  obtain ⟨a1, len1, cap1, rfl⟩ := okWide_slice Tryz.underlying22 (hval 1 22 v1 rfl rfl)
  obtain ⟨fuel1, hf1⟩ := h1
  obtain ⟨x1, r1, z1⟩ := open_files _ _ _ hf1
  obtain ⟨x2, rfl, rfl, rfl, z2⟩ := open_int Tryz.underlying3 (hval 2 3 v2 rfl rfl) h2
  obtain ⟨a3, len3, cap3, rfl⟩ := okWide_slice Tryz.underlying66 (hval 3 66 v3 rfl rfl)
  obtain ⟨fuel3, hf3⟩ := h3
  obtain ⟨x3, r3⟩ := open_picks hf3
  refine (LApprovalAll_any _ x0 _ x1 x2 _ x3 W (ReadsL.one r0) z0 (ReadsL.one r1) z1 z2 r3).mono fun e W' ⟨he, hbl⟩ => ?_
  subst he
  exact ⟨_, rfl, law_post rfl (by kernel_rfl) (fun t ht => by
    rw [approvalAll_params] at ht
    have ht' : t ∈ [22, 22, 3, 66] := ht
    simp only [List.mem_cons, List.not_mem_nil, or_false] at ht'
    rcases ht' with rfl | rfl | rfl | rfl <;> exact ⟨by kernel_rfl, of_decide_eq_true (by kernel_rfl)⟩) hW' (fun h => by rw [h]; rfl) hbl⟩
theorem approvalAll_holds : Rows.ApprovalAllSaid :=
  OpenClaim.holds_of_wide 10 Tryz.f10 rfl rfl rfl rfl rfl rfl rfl ⟨rfl, rfl, rfl, rfl, rfl⟩ rfl rfl rfl rfl rfl (by kernel_rfl) Tryz.func10 (by kernel_rfl)
    (of_decide_eq_true (by kernel_rfl)) (by unfold Func.isWrapper; first | (rw [if_pos (by decide +kernel)]; kernel_rfl) | (rw [if_neg (by decide +kernel)]; exact ⟨rfl, rfl⟩))
    (fun os started H enc _ => approvalAll_lifted os started H enc)
theorem approvalAll_plain (f : FuncId) (fn : Func) (hf : Tryz.pinned.checked.prog.funcNamed "cordwood/cordwoodlaw55.ApprovalAll" = some f) (hfn : Tryz.pinned.checked.prog.funcs[f]? = some fn) :
    false = Tryz.pinned.checked.prog.looks [] ∧ ∀ (j : Nat) t, fn.params[j]? = some t → Tryz.pinned.checked.prog.wantsStandIn t = false := by
  obtain rfl : f = 10 := Option.some.inj ((show Tryz.prog.funcNamed "cordwood/cordwoodlaw55.ApprovalAll" = some 10 by kernel_rfl).symm.trans hf) |>.symm
  obtain rfl : fn = Tryz.f10 := (Option.some.inj (Tryz.func10.symm.trans hfn)).symm
  refine ⟨by kernel_rfl, fun j t hj => ?_⟩
  have ht := List.mem_of_getElem? (Array.getElem?_toList.trans hj)
  rw [approvalAll_params] at ht
  have ht' : t ∈ [22, 22, 3, 66] := ht
  simp only [List.mem_cons, List.not_mem_nil, or_false] at ht'
  rcases ht' with rfl | rfl | rfl | rfl
  · exact (show Tryz.prog.wantsStandIn 22 = false by kernel_rfl)
  · exact (show Tryz.prog.wantsStandIn 22 = false by kernel_rfl)
  · exact (show Tryz.prog.wantsStandIn 3 = false by kernel_rfl)
  · exact (show Tryz.prog.wantsStandIn 66 = false by kernel_rfl)
theorem approvalAll_card : Rows.ApprovalAllCardSaid :=
  Claim7.holds_tied_plain_at .later [] _ _ _ _ approvalAll_holds (fun _ h => by cases h) (by kernel_rfl) (fun _ h => by cases h) approvalAll_row_tie rfl ⟨rfl, rfl⟩ (by kernel_rfl) rfl approvalAll_plain (by kernel_rfl)
#print axioms approvalAll_card
end Go.Proofs.YtidkpnabdfiilaaGreatDoor
