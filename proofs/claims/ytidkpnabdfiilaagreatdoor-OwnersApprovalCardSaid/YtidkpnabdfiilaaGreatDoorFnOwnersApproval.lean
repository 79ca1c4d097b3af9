/- OwnersApproval returns true for every input, and its arguments read as before: the tied card. No condition of ours. -/
import Derived.Test.YtidkpnabdfiilaaGreatDoorFin
import Derived.Test.YtidkpnabdfiilaaGreatDoorQ17
import Derived.Lib.SmallJoins
import Derived.Test.YtidkpnabdfiilaaGreatDoorLwOwnersApproval
namespace Go.Proofs.YtidkpnabdfiilaaGreatDoor
open Go.RowKit Go.ChangeShapes Go.WideShapes Go.ChangeAt
open Go.ChangeMaps (open_string)

theorem open_people {H : Type} {enc : TypeId × Value → H} {w : World} {base : Nat} {held : Bool} {c0 c1 c2 c3 : Value} (fuel : Nat) (x : DataW H × List MemPlace) (h : DataW.trod enc Tryz.prog w base (fun _ => true) held fuel 35 [c0, c1, c2, c3] = some x) :
    ∃ (o : List OFile × List OFile) (who more : List ByteArray), (Reads w [] (filesT o.1) c0 ∧ Reads w [] (filesT o.2) c1 ∧ Reads w [] (strsT who) c2 ∧ Reads w [] (strsT more) c3) ∧ SizedF o.1 ∧ SizedF o.2 ∧ SizedS who ∧ SizedS more := by
  obtain ⟨y0, y1, y2, y3, n, _, hlen, f0, f1, f2, f3⟩ := Joins.trod_struct4 Tryz.underlying35 h
  simp only [] at f0 f1 f2 f3
  rw [show Tryz.prog.cellsOf 22 = 1 by kernel_rfl] at f0 f1
  rw [show Tryz.prog.cellsOf 30 = 1 by kernel_rfl] at f2 f3
  obtain ⟨a, ha, za⟩ := open_files _ _ _ f0
  obtain ⟨b, hb, zb⟩ := open_files _ _ _ f1
  obtain ⟨c, hc, zc⟩ := open_strs' _ _ _ f2
  obtain ⟨d, hd, zd⟩ := open_strs' _ _ _ f3
  exact ⟨(a, b), c, d, ⟨ReadsL.one ha, ReadsL.one hb, ReadsL.one hc, ReadsL.one hd⟩, za, zb, zc, zd⟩
theorem ownersApproval_params : Tryz.f4.params = #[35] := Tryz.params4
set_option maxRecDepth 100000 in
theorem ownersApproval_lifted (os : Os) (started : os.Started) (H : Type) (enc : TypeId × Value → H) :
    ReturnsInHanded {} Tryz.checked os 4 .any (fun w args => (Rows.ownersApprovalSpec.pre enc Tryz.prog Tryz.f4 [] false w args ∧ laidMetH Tryz.prog Rows.ownersApprovalRow.laid w) ∧ sizedMet enc Tryz.prog Tryz.f4 (OpenSpec.ofChange Rows.ownersApprovalSpec) false w args)
      (Rows.ownersApprovalSpec.post enc Tryz.prog Tryz.f4 false true false false) := by
  refine returnsInHanded_of_change_and (C := Tryz.checked) (X := fun w _ => laidMetH Tryz.prog Rows.ownersApprovalRow.laid w) (fun _ _ _ hh h => h.of_heap hh) ownK started (by kernel_rfl) Tryz.func4
    (ChangeSpec.witness_shaped (enc := enc) (C := Tryz.checked) (os := os) (X := fun w _ => laidMetH Tryz.prog Rows.ownersApprovalRow.laid w) false (World.laidAll Tryz.prog os Rows.ownersApprovalRow.laid) #[.agg #[.slice none 0 0, .slice none 0 0, .slice none 0 0, .slice none 0 0]] 8 (World.laidAll_os _ _ _)
      (World.shaped_of_ZipB (by kernel_rfl) (by kernel_rfl)) (by kernel_rfl) (by kernel_rfl) (by kernel_rfl)
      (by rw [MakeChecks.laidMetH_plain _ _ _ (by kernel_rfl)]; exact laidMet_laidAll _ (by kernel_rfl) (by kernel_rfl))) ?_
  intro W base args ds gs before hval0 hW _ _ _ _
  have hval : ∀ (j : Nat) t v, Tryz.f4.params[j]? = some t → args[j]? = some v → Value.okWide Tryz.prog W .any base t v := hval0
  have hW' := hW
  obtain ⟨p, q, hA, hV, _, _, _⟩ := hW
  rw [ownersApproval_params] at hA hval
  obtain ⟨v0, d0, rfl, rfl, h0⟩ := trodAll_one hA
  obtain ⟨cs, rfl, hcs⟩ := okWide_struct Tryz.underlying35 (hval 0 35 v0 rfl rfl)
  rw [show Tryz.prog.cellsOf 35 = 4 by kernel_rfl] at hcs
  obtain ⟨c0, c1, c2, c3, rfl⟩ := Joins.array4 hcs
  obtain ⟨fuel0, hf0⟩ := h0
  obtain ⟨⟨o1, o2⟩, who, more, ⟨r0, r1, r2, r3⟩, z0, z1, z2, z3⟩ := open_people _ _ hf0
  refine (LOwnersApproval_any c0 c1 c2 c3 o1 o2 who more W r0 z0 r1 z1 (reads_strs.1 r2).1 z2 (reads_strs.1 r3).1 z3).mono fun e W' ⟨he, hbl⟩ => ?_
  subst he
  exact ⟨_, rfl, law_post rfl (by kernel_rfl) (fun t ht => by
    rw [ownersApproval_params] at ht
    have ht' : t ∈ [35] := ht
    simp only [List.mem_cons, List.not_mem_nil, or_false] at ht'
    rcases ht' with rfl <;> exact ⟨by kernel_rfl, of_decide_eq_true (by kernel_rfl)⟩) hW' (fun h => by rw [h]; rfl) hbl⟩
theorem ownersApproval_holds : Rows.OwnersApprovalSaid :=
  OpenClaim.holds_of_wide 4 Tryz.f4 rfl rfl rfl rfl rfl rfl rfl ⟨rfl, rfl, rfl, rfl, rfl⟩ rfl rfl rfl rfl rfl (by kernel_rfl) Tryz.func4 (by kernel_rfl)
    (of_decide_eq_true (by kernel_rfl)) (by unfold Func.isWrapper; first | (rw [if_pos (by decide +kernel)]; kernel_rfl) | (rw [if_neg (by decide +kernel)]; exact ⟨rfl, rfl⟩))
    (fun os started H enc _ => ownersApproval_lifted os started H enc)
theorem ownersApproval_plain (f : FuncId) (fn : Func) (hf : Tryz.pinned.checked.prog.funcNamed "cordwood/cordwoodlaw54.OwnersApproval" = some f) (hfn : Tryz.pinned.checked.prog.funcs[f]? = some fn) :
    false = Tryz.pinned.checked.prog.looks [] ∧ ∀ (j : Nat) t, fn.params[j]? = some t → Tryz.pinned.checked.prog.wantsStandIn t = false := by
  obtain rfl : f = 4 := Option.some.inj ((show Tryz.prog.funcNamed "cordwood/cordwoodlaw54.OwnersApproval" = some 4 by kernel_rfl).symm.trans hf) |>.symm
  obtain rfl : fn = Tryz.f4 := (Option.some.inj (Tryz.func4.symm.trans hfn)).symm
  refine ⟨by kernel_rfl, fun j t hj => ?_⟩
  have ht := List.mem_of_getElem? (Array.getElem?_toList.trans hj)
  rw [ownersApproval_params] at ht
  have ht' : t ∈ [35] := ht
  simp only [List.mem_cons, List.not_mem_nil, or_false] at ht'
  rcases ht' with rfl
  · exact (show Tryz.prog.wantsStandIn 35 = false by kernel_rfl)
theorem ownersApproval_card : Rows.OwnersApprovalCardSaid :=
  Claim7.holds_tied_plain_at .later [] _ _ _ _ ownersApproval_holds (fun _ h => by cases h) (by kernel_rfl) (fun _ h => by cases h) ownersApproval_row_tie rfl ⟨rfl, rfl⟩ (by kernel_rfl) rfl ownersApproval_plain (by kernel_rfl)
#print axioms ownersApproval_card
end Go.Proofs.YtidkpnabdfiilaaGreatDoor
