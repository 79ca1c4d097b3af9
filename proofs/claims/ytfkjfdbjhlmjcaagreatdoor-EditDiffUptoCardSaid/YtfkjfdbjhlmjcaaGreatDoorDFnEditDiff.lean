/- EditDiff: -/
import Derived.Test.YtfkjfdbjhlmjcaaGreatDoorDFcEditDiff
import Derived.Test.YtfkjfdbjhlmjcaaGreatDoorDLwEditDiff
set_option maxRecDepth 100000
namespace Go.Proofs.YtfkjfdbjhlmjcaaGreatDoor
open Go.RowKit Go.ChangeShapes Go.WideShapes Go.ChangeAt
abbrev eA:Array Value:=#[.slice none 0 0,.slice none 0 0,.slice none 0 0]
theorem zEg:Tryz.f4.params=#[22,22,23]:=Tryz.params4
theorem eW (os:Os) (H:Type) (enc:TypeId×Value→H):∃(w:World) (tape:Tape) (i:Input),w.os=os∧(w.forCall tape i).Shaped Tryz.checked.prog∧i.vars=[]∧Input.okWide Tryz.checked.prog (w.forCall tape i) .any w.heap.size 4 i ∧
  (Rows.OpenSpec.upto Rows.editDiffSpec).preRow enc Tryz.checked.prog Tryz.f4 Rows.editDiffUptoRow.domain false Rows.editDiffUptoRow.laid (w.forCall tape i).memory i.args∧({}:Assume).holds Tryz.checked.prog (lone (Frame.enter Tryz.checked.prog 4 i.args .normal) [] (w.forCall tape i)):=by
 have hx:(DataW.whole enc Tryz.prog ((World.laidAll Tryz.prog os Rows.editDiffUptoRow.laid).forCall (fun _ _=>0) ⟨#[],eA,[]⟩).memory Tryz.f4.params.toList Rows.editDiffSpec.vars false eA.toList 8).map (fun x=>Rows.uptoSmall H (x.1++x.2.1))=some true:=by kernel_rfl
 obtain ⟨x,hx1,hx2⟩:=Option.map_eq_some_iff.1 hx;have hok:Input.okWideB Tryz.prog ((World.laidAll Tryz.prog os Rows.editDiffUptoRow.laid).forCall (fun _ _=>0) ⟨#[],eA,[]⟩) 4 ⟨#[],eA,[]⟩=true:=by kernel_rfl
 refine ⟨World.laidAll Tryz.prog os Rows.editDiffUptoRow.laid,fun _ _=>0,⟨#[],eA,[]⟩,World.laidAll_os _ _ _,World.shaped_of_ZipB (by kernel_rfl) (by kernel_rfl),(Input.okWide_of_okWideB (base:=0) hok).1,(Input.okWide_of_okWideB hok).2,?_,?_⟩
 ·exact OpenSpec.preRow_of_cond 8 hx1 rfl (fun k hk=>by cases hk;exact hx2) (by kernel_rfl) (by rw [MakeChecks.laidMetH_plain _ _ _ (by kernel_rfl)];exact laidMet_laidAll _ (by kernel_rfl) (by kernel_rfl))
 ·simp only [Assume.holds]
  exact ⟨by simp,by simp,fun _=>Modest.zero,by simp,by simp⟩
theorem zFg {H:Type} {B:Nat} {x:DataW H} {l gs:List (DataW H)} (h:Rows.uptoSmall H (l++gs)=true) (hx:x∈l) (hB:1048576≤B):Rows.uptoBulk x≤B:=by
 have h1:=of_decide_eq_true h;rw [zLp] at h1;have h2:=zSg (List.mem_map.2 ⟨x,List.mem_append_left gs hx,rfl⟩:Rows.uptoBulk x∈(l++gs).map Rows.uptoBulk);omega
theorem eL (os:Os) (started:os.Started) (H:Type) (enc:TypeId×Value→H) (F:Stop.Interp) :
  ReturnsInHanded {} Tryz.checked os 4 .any ((Rows.OpenSpec.upto Rows.editDiffSpec).preRow enc Tryz.prog Tryz.f4 Rows.editDiffUptoRow.domain false Rows.editDiffUptoRow.laid) (((Rows.OpenSpec.upto Rows.editDiffSpec).at F).post enc Tryz.prog Tryz.f4 false true false false):=by
 refine returnsInHanded_of_row (C:=Tryz.checked) (s:=Rows.OpenSpec.upto Rows.editDiffSpec) yEp started (by kernel_rfl) Tryz.func4 (eW os H enc) ?_;intro W base args ds gs before hval0 hW _ hcond _ _ _ _;have hval:∀(j:Nat) t v,Tryz.f4.params[j]?=some t→args[j]?=some v→Value.okWide Tryz.prog W .any base t v:=hval0;have hW':=hW;have hk:Rows.uptoSmall H (ds++gs)=true:=hcond _ rfl;obtain ⟨p,q,hA,hV,_,_,_⟩:=hW;rw [zEg] at hA hval;obtain ⟨v0,v1,v2,d0,d1,d2,p0,p1,p2,rfl,rfl,rfl,h0,h1,h2⟩:=trodAll_three hA
 obtain ⟨a0,len0,cap0,rfl⟩:=okWide_slice Tryz.underlying22 (hval 0 22 v0 rfl rfl);obtain ⟨fuel0,hf0⟩:=h0;obtain ⟨x0,q0,z0⟩:=zTj _ _ _ hf0;have i0:=ReadsL.one q0;obtain ⟨_,_,e0,_,_⟩:=zEx i0;obtain rfl:len0=x0.length:=by injection e0
 obtain ⟨b0,n0⟩:=zTk z0 (zFg (B:=4000000) hk (by simp) (by omega));obtain ⟨a1,len1,cap1,rfl⟩:=okWide_slice Tryz.underlying22 (hval 1 22 v1 rfl rfl);obtain ⟨fuel1,hf1⟩:=h1;obtain ⟨x1,q1,z1⟩:=zTj _ _ _ hf1;have i1:=ReadsL.one q1;obtain ⟨_,_,e1,_,_⟩:=zEx i1;obtain rfl:len1=x1.length:=by injection e1
 obtain ⟨b1,n1⟩:=zTk z1 (zFg (B:=4000000) hk (by simp) (by omega));obtain ⟨a2,len2,cap2,rfl⟩:=okWide_slice Tryz.underlying23 (hval 2 23 v2 rfl rfl);obtain ⟨fuel2,hf2⟩:=h2;obtain ⟨x2,q2,z2⟩:=zY _ _ _ hf2;have i2:=ReadsL.one q2;obtain ⟨_,_,e2,_,_⟩:=zEu i2;obtain rfl:len2=x2.length:=by injection e2
 obtain ⟨b2,n2⟩:=zYa z2 (zFg (B:=4000000) hk (by simp) (by omega));refine (zOu x0 x1 x2 a0 a1 a2 cap0 cap1 cap2 W i0 i1 i2 b0 b1 b2 n0 n1 n2).mono fun e W' ⟨he,hbl⟩=>?_;subst he
 exact ⟨_,rfl,zZh rfl (by kernel_rfl) (fun t ht=>by
  rw [zEg] at ht;have ht':t∈[22,22,23]:=ht;simp only [List.mem_cons,List.not_mem_nil,or_false] at ht'
  rcases ht' with rfl|rfl|rfl<;>exact ⟨by kernel_rfl,of_decide_eq_true (by kernel_rfl)⟩) hW' (fun h=>by rw [h];rfl) hbl⟩
theorem eH:Rows.EditDiffUptoSaid:=
 OpenClaim.holds_of_cond 4 Tryz.f4 rfl rfl rfl rfl rfl rfl rfl ⟨rfl,rfl,rfl,rfl,rfl⟩ rfl rfl rfl rfl rfl (by as_aux_lemma=>kernel_rfl) Tryz.func4 zKf
  (of_decide_eq_true (by as_aux_lemma=>kernel_rfl)) (by unfold Func.isWrapper;first|(rw [if_pos (by decide +kernel)];kernel_rfl)|(rw [if_neg (by decide +kernel)];exact ⟨rfl,rfl⟩))
  (fun os started H enc _ F=>by rw [OpenClaim.pre_eq_preRow];exact eL os started H enc F)
theorem eP (f:FuncId) (fn:Func) (hf:Tryz.pinned.checked.prog.funcNamed "cordwood/cordwoodlaw34.EditDiff"=some f) (hfn:Tryz.pinned.checked.prog.funcs[f]?=some fn) :
  false=Tryz.pinned.checked.prog.looks []∧∀(j:Nat) t,fn.params[j]?=some t→Tryz.pinned.checked.prog.wantsStandIn t=false:=by
 obtain rfl:f=4:=Option.some.inj ((show Tryz.prog.funcNamed "cordwood/cordwoodlaw34.EditDiff"=some 4 by kernel_rfl).symm.trans hf) |>.symm;obtain rfl:fn=Tryz.f4:=(Option.some.inj (Tryz.func4.symm.trans hfn)).symm;refine ⟨by kernel_rfl,fun j t hj=>?_⟩;have ht:=List.mem_of_getElem? (Array.getElem?_toList.trans hj);rw [zEg] at ht;have ht':t∈[22,22,23]:=ht;simp only [List.mem_cons,List.not_mem_nil,or_false] at ht'
 rcases ht' with rfl|rfl|rfl
 iterate 2 exact (show Tryz.prog.wantsStandIn 22=false by kernel_rfl)
 exact (show Tryz.prog.wantsStandIn 23=false by kernel_rfl)
theorem editDiff_card:Rows.EditDiffUptoCardSaid:=
 Claim7.holds_tied_plain_at .later [] _ _ _ _ eH (fun _ h=>by cases h) (by as_aux_lemma=>kernel_rfl) (fun _ h=>by cases h) editDiffUpto_row_tie rfl ⟨rfl,rfl⟩ (by as_aux_lemma=>kernel_rfl) rfl eP (by as_aux_lemma=>kernel_rfl)
end Go.Proofs.YtfkjfdbjhlmjcaaGreatDoor
