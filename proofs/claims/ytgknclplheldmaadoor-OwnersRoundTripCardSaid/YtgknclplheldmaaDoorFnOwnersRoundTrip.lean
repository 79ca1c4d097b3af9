/- OwnersRoundTrip returns true for every input, and its arguments read as before: the tied card. No condition of ours. -/
import Derived.Test.YtgknclplheldmaaDoorFin
import Derived.Test.YtgknclplheldmaaDoorOpO
import Derived.Test.YtgknclplheldmaaDoorLwOwnersRoundTrip
import Derived.Stop.LaidErr
import Derived.Lib.LaidTab
import Derived.ChangeSlices
namespace Go.Proofs.YtgknclplheldmaaDoor
open Go.RowKit Go.ChangeShapes Go.WideShapes Go.ChangeAt
open Go.ChangeMaps (open_string)

theorem ownersRoundTrip_params : Tryd.f7.params = #[23, 41] := Tryd.params7
theorem ownersRoundTrip_tab {W : World} (h : laidMetH Tryd.prog Rows.ownersRoundTripRow.laid W) : Lib.TabIs Tryd.prog W "strings.asciiSpace" .u8 Lib.asciiSpaceTab := by
  rw [MakeChecks.laidMetH_plain _ _ _ (by kernel_rfl)] at h
  have h2 : laidMet Tryd.prog (("strings.asciiSpace", Rows.laid_strings_asciiSpace) :: [("unicode/utf8.first", Rows.laid_unicode_utf8_first)]) W := h.tail.tail
  have e : (Rows.laid_strings_asciiSpace : DataW Unit) = Lib.tabData .u8 Lib.asciiSpaceTab := by kernel_rfl
  rw [e] at h2
  exact Lib.tabIs_of_head (g := 0) (t := 79) (e := 5) (n := 256) (by kernel_rfl) (by kernel_rfl) (by kernel_rfl) Tryd.underlying5 (by kernel_rfl) (by kernel_rfl) h2
theorem open_gaps {H : Type} {enc : TypeId × Value → H} {w : World} {base : Nat} {held : Bool} {fuel : Nat} {a : Option Addr} {len cap : Nat} {x : DataW H × List MemPlace} (h : DataW.trod enc Tryd.prog w base (fun _ => true) held fuel 41 [.slice a len cap] = some x) :
    ∃ gs : List Int, Gaps w (.slice a len cap) gs := by
  rcases open_ints Tryd.underlying41 Tryd.underlying5 (by kernel_rfl) h with ⟨e, _⟩ | ⟨a', len', cap', zs, e, _, hl, hm, hzl, _, hc, hwf⟩
  · cases e
    exact ⟨[], none, 0, rfl, Nat.le_refl _, by omega, by simp, fun i hi => absurd hi (Nat.not_lt_zero _)⟩
  · cases e
    simp only [if_true] at hzl
    have hlen : (zs.take len).length = len := by rw [List.length_take]; omega
    refine ⟨zs.take len, some a', cap, by rw [hlen], by rw [hlen]; exact hl, by unfold maxLen at hm; omega, fun g hg => ?_, fun i hi => ?_⟩
    · have := hwf g (List.mem_of_mem_take hg)
      simp [Lit.wf, IntKind.min, IntKind.max, IntKind.signed, IntKind.bits] at this
      omega
    · rw [hlen] at hi
      have hci := hc i (by omega)
      have h0 := hc 0 (by omega)
      have hs : a'.spot = none := by
        have := World.cell?_spot h0
        simpa [Addr.add] using this
      obtain ⟨b, o, sp⟩ := a'
      simp only at hs
      subst hs
      refine ⟨b, o, rfl, lt_of_cell (o := o) (by simpa [Addr.add] using h0), ?_⟩
      have e1 : (zs.take len).getD i 0 = zs.getD i 0 := by
        rw [List.getD_eq_getElem?_getD, List.getD_eq_getElem?_getD, List.getElem?_take, if_pos hi]
      rw [e1]
      by_cases hi0 : i = 0
      · subst hi0; simpa [Addr.add] using hci
      · simpa [Addr.add, hi0] using hci
set_option maxRecDepth 100000 in
theorem ownersRoundTrip_lifted (os : Os) (started : os.Started) (H : Type) (enc : TypeId × Value → H) :
    ReturnsInHanded {} Tryd.checked os 7 .any (fun w args => (Rows.ownersRoundTripSpec.pre enc Tryd.prog Tryd.f7 [] false w args ∧ laidMetH Tryd.prog Rows.ownersRoundTripRow.laid w) ∧ sizedMet enc Tryd.prog Tryd.f7 (OpenSpec.ofChange Rows.ownersRoundTripSpec) false w args)
      (Rows.ownersRoundTripSpec.post enc Tryd.prog Tryd.f7 false true false false) := by
  refine returnsInHanded_of_change_and (C := Tryd.checked) (X := fun w _ => laidMetH Tryd.prog Rows.ownersRoundTripRow.laid w) (fun _ _ _ hh h => h.of_heap hh) ownK started (by kernel_rfl) Tryd.func7
    (ChangeSpec.witness_shaped (enc := enc) (C := Tryd.checked) (os := os) (X := fun w _ => laidMetH Tryd.prog Rows.ownersRoundTripRow.laid w) false (World.laidAll Tryd.prog os Rows.ownersRoundTripRow.laid) #[.slice none 0 0, .slice none 0 0] 8 (World.laidAll_os _ _ _)
      (World.shaped_of_ZipB (by kernel_rfl) (by kernel_rfl)) (by kernel_rfl) (by kernel_rfl) (by kernel_rfl)
      (by rw [MakeChecks.laidMetH_plain _ _ _ (by kernel_rfl)]; exact laidMet_laidAll _ (by kernel_rfl) (by kernel_rfl))) ?_
  intro W base args ds gs before hval0 hW _ _ hX _
  have hval : ∀ (j : Nat) t v, Tryd.f7.params[j]? = some t → args[j]? = some v → Value.okWide Tryd.prog W .any base t v := hval0
  have hW' := hW
  obtain ⟨p, q, hA, hV, _, _, _⟩ := hW
  rw [ownersRoundTrip_params] at hA hval
  obtain ⟨v0, v1, d0, d1, p0, p1, rfl, rfl, rfl, h0, h1⟩ := trodAll_two hA
  obtain ⟨a0, len0, cap0, rfl⟩ := okWide_slice Tryd.underlying23 (hval 0 23 v0 rfl rfl)
  obtain ⟨fuel0, hf0⟩ := h0
  obtain ⟨x0, r0, z0⟩ := open_orules _ _ _ hf0
  obtain ⟨a1, len1, cap1, rfl⟩ := okWide_slice Tryd.underlying41 (hval 1 41 v1 rfl rfl)
  obtain ⟨fuel1, hf1⟩ := h1
  obtain ⟨gl, hgl⟩ := open_gaps hf1
  refine (LOwnersRoundTrip_any _ _ x0 gl W (ReadsL.one r0) z0 hgl (ownersRoundTrip_tab hX)).mono fun e W' ⟨he, hbl⟩ => ?_
  subst he
  exact ⟨_, rfl, law_post rfl (by kernel_rfl) (fun t ht => by
    rw [ownersRoundTrip_params] at ht
    have ht' : t ∈ [23, 41] := ht
    simp only [List.mem_cons, List.not_mem_nil, or_false] at ht'
    rcases ht' with rfl | rfl <;> exact ⟨by kernel_rfl, of_decide_eq_true (by kernel_rfl)⟩) hW' (fun h => by rw [h]; rfl) hbl⟩
theorem ownersRoundTrip_holds : Rows.OwnersRoundTripSaid :=
  OpenClaim.holds_of_wide 7 Tryd.f7 rfl rfl rfl rfl rfl rfl rfl ⟨rfl, rfl, rfl, rfl, rfl⟩ rfl rfl rfl rfl rfl (by kernel_rfl) Tryd.func7 (by kernel_rfl)
    (of_decide_eq_true (by kernel_rfl)) (by unfold Func.isWrapper; first | (rw [if_pos (by decide +kernel)]; kernel_rfl) | (rw [if_neg (by decide +kernel)]; exact ⟨rfl, rfl⟩))
    (fun os started H enc _ => ownersRoundTrip_lifted os started H enc)
theorem ownersRoundTrip_plain (f : FuncId) (fn : Func) (hf : Tryd.pinned.checked.prog.funcNamed "cordwood/cordwoodlaw54.OwnersRoundTrip" = some f) (hfn : Tryd.pinned.checked.prog.funcs[f]? = some fn) :
    false = Tryd.pinned.checked.prog.looks [] ∧ ∀ (j : Nat) t, fn.params[j]? = some t → Tryd.pinned.checked.prog.wantsStandIn t = false := by
  obtain rfl : f = 7 := Option.some.inj ((show Tryd.prog.funcNamed "cordwood/cordwoodlaw54.OwnersRoundTrip" = some 7 by kernel_rfl).symm.trans hf) |>.symm
  obtain rfl : fn = Tryd.f7 := (Option.some.inj (Tryd.func7.symm.trans hfn)).symm
  refine ⟨by kernel_rfl, fun j t hj => ?_⟩
  have ht := List.mem_of_getElem? (Array.getElem?_toList.trans hj)
  rw [ownersRoundTrip_params] at ht
  have ht' : t ∈ [23, 41] := ht
  simp only [List.mem_cons, List.not_mem_nil, or_false] at ht'
  rcases ht' with rfl | rfl
  · exact (show Tryd.prog.wantsStandIn 23 = false by kernel_rfl)
  · exact (show Tryd.prog.wantsStandIn 41 = false by kernel_rfl)
theorem ownersRoundTrip_card : Rows.OwnersRoundTripCardSaid :=
  Claim7.holds_tied_plain_at .later [] _ _ _ _ ownersRoundTrip_holds (fun _ h => by cases h) (by kernel_rfl) (fun _ h => by cases h) ownersRoundTrip_row_tie rfl ⟨rfl, rfl⟩ (by kernel_rfl) rfl ownersRoundTrip_plain (by kernel_rfl)
#print axioms ownersRoundTrip_card
end Go.Proofs.YtgknclplheldmaaDoor
