/- EditDecode returns true for every input, and its arguments read as before: -/
import Derived.Test.YtfkjfdbjhlmjcaaGreatDoorXFin
import Derived.Test.YtfkjfdbjhlmjcaaGreatDoorXLwEditDecode
set_option maxRecDepth 100000
set_option maxHeartbeats 16000000
namespace Go.Proofs.YtfkjfdbjhlmjcaaGreatDoor
open Go.RowKit Go.ChangeShapes Go.WideShapes Go.ChangeAt
open Go.ChangeMaps (open_string)
theorem zCz:Tryz.f6.params=#[9]:=Tryz.params6
theorem editDecode_lifted (os:Os) (started:os.Started) (H:Type) (enc:TypeId×Value→H) :
  ReturnsInHanded {} Tryz.checked os 6 .any (fun w args=>(Rows.editDecodeSpec.pre enc Tryz.prog Tryz.f6 [] false w args∧laidMetH Tryz.prog Rows.editDecodeRow.laid w)∧sizedMet enc Tryz.prog Tryz.f6 (OpenSpec.ofChange Rows.editDecodeSpec) false w args)
   (Rows.editDecodeSpec.post enc Tryz.prog Tryz.f6 false true false false):=by
 refine returnsInHanded_of_change_and (C:=Tryz.checked) (X:=fun w _=>laidMetH Tryz.prog Rows.editDecodeRow.laid w) (fun _ _ _ hh h=>h.of_heap hh) yFi started (by kernel_rfl) Tryz.func6
  (ChangeSpec.witness_shaped (enc:=enc) (C:=Tryz.checked) (os:=os) (X:=fun w _=>laidMetH Tryz.prog Rows.editDecodeRow.laid w) false (World.laidAll Tryz.prog os Rows.editDecodeRow.laid) #[.string ⟨#[]⟩] 8 (World.laidAll_os _ _ _)
   (World.shaped_of_ZipB (by kernel_rfl) (by kernel_rfl)) (by kernel_rfl) (by kernel_rfl) (by kernel_rfl)
   (by rw [MakeChecks.laidMetH_plain _ _ _ (by kernel_rfl)];exact laidMet_laidAll _ (by kernel_rfl) (by kernel_rfl))) ?_
 intro W base args ds gs before hval0 hW _ _ _ _;have hval:∀(j:Nat) t v,Tryz.f6.params[j]?=some t→args[j]?=some v→Value.okWide Tryz.prog W .any base t v:=hval0;have hW':=hW;obtain ⟨p,q,hA,hV,_,_,_⟩:=hW;rw [zCz] at hA hval;obtain ⟨v0,d0,rfl,rfl,h0⟩:=trodAll_one hA;obtain ⟨a,rfl,rfl,rfl,ha⟩:=open_string Tryz.underlying9 (hval 0 9 v0 rfl rfl) h0;unfold maxLen at ha;refine (zLi a W (by omega)).mono fun e W' ⟨he,hbl⟩=>?_;subst he
 exact ⟨_,rfl,yAr rfl (by kernel_rfl) (fun t ht=>by
  rw [zCz] at ht;obtain rfl:t=9:=by simpa using ht
  exact ⟨by kernel_rfl,of_decide_eq_true (by kernel_rfl)⟩) hW' (fun h=>by rw [h];rfl) hbl⟩
theorem editDecode_holds:Rows.EditDecodeSaid:=
 OpenClaim.holds_of_wide 6 Tryz.f6 rfl rfl rfl rfl rfl rfl rfl ⟨rfl,rfl,rfl,rfl,rfl⟩ rfl rfl rfl rfl rfl (by as_aux_lemma=>kernel_rfl) Tryz.func6 (by as_aux_lemma=>kernel_rfl)
  (of_decide_eq_true (by as_aux_lemma=>kernel_rfl)) (by unfold Func.isWrapper;first|(rw [if_pos (by decide +kernel)];kernel_rfl)|(rw [if_neg (by decide +kernel)];exact ⟨rfl,rfl⟩))
  (fun os started H enc _=>editDecode_lifted os started H enc)
theorem editDecode_plain (f:FuncId) (fn:Func) (hf:Tryz.pinned.checked.prog.funcNamed "cordwood/cordwoodlaw34.EditDecode"=some f) (hfn:Tryz.pinned.checked.prog.funcs[f]?=some fn) :
  false=Tryz.pinned.checked.prog.looks []∧∀(j:Nat) t,fn.params[j]?=some t→Tryz.pinned.checked.prog.wantsStandIn t=false:=by
 obtain rfl:f=6:=Option.some.inj ((show Tryz.prog.funcNamed "cordwood/cordwoodlaw34.EditDecode"=some 6 by kernel_rfl).symm.trans hf) |>.symm;obtain rfl:fn=Tryz.f6:=(Option.some.inj (Tryz.func6.symm.trans hfn)).symm;refine ⟨by kernel_rfl,fun j t ht=>?_⟩;rw [zCz] at ht;obtain rfl:t=9:=by simpa using Array.mem_of_getElem? ht
 exact (show Tryz.prog.wantsStandIn 9=false by kernel_rfl)
theorem editDecode_card:Rows.EditDecodeCardSaid:=
 Claim7.holds_tied_plain_at .later [] _ _ _ _ editDecode_holds (fun _ h=>by cases h) (by as_aux_lemma=>kernel_rfl) (fun _ h=>by cases h) editDecode_row_tie rfl ⟨rfl,rfl⟩ (by as_aux_lemma=>kernel_rfl) rfl editDecode_plain (by as_aux_lemma=>kernel_rfl)
#print axioms editDecode_card
end Go.Proofs.YtfkjfdbjhlmjcaaGreatDoor
