/- EditEncoding: -/
import Derived.Test.YtfkjfdbjhlmjcaaGreatDoorYFcEditEncoding
import Derived.Test.YtfkjfdbjhlmjcaaGreatDoorYLwEditEncoding
set_option maxRecDepth 100000
namespace Go.Proofs.YtfkjfdbjhlmjcaaGreatDoor
open Go.RowKit Go.ChangeShapes Go.WideShapes Go.ChangeAt
theorem zCe:Tryz.f7.params=#[39,9]:=Tryz.params7
theorem editEncoding_witness (os:Os) (H:Type) (enc:TypeId×Value→H):∃(w:World) (tape:Tape) (i:Input),w.os=os∧(w.forCall tape i).Shaped Tryz.checked.prog∧i.vars=[]∧Input.okWide Tryz.checked.prog (w.forCall tape i) .any w.heap.size 7 i ∧
  (Rows.OpenSpec.upto Rows.editEncodingSpec).preRow enc Tryz.checked.prog Tryz.f7 Rows.editEncodingUptoRow.domain false Rows.editEncodingUptoRow.laid (w.forCall tape i).memory i.args∧({}:Assume).holds Tryz.checked.prog (lone (Frame.enter Tryz.checked.prog 7 i.args .normal) [] (w.forCall tape i)):=by
 have hx:(DataW.whole enc Tryz.prog ((World.laidAll Tryz.prog os Rows.editEncodingUptoRow.laid).forCall (fun _ _=>0) ⟨#[],#[.agg #[.int .i64 0,.string ⟨#[]⟩,.string ⟨#[]⟩,.slice none 0 0,.slice none 0 0],.string ⟨#[]⟩],[]⟩).memory Tryz.f7.params.toList Rows.editEncodingSpec.vars false #[.agg #[.int .i64 0,.string ⟨#[]⟩,.string ⟨#[]⟩,.slice none 0 0,.slice none 0 0],.string ⟨#[]⟩].toList 8).map (fun x=>Rows.uptoSmall H (x.1++x.2.1))=some true:=by kernel_rfl
 obtain ⟨x,hx1,hx2⟩:=Option.map_eq_some_iff.1 hx;have hok:Input.okWideB Tryz.prog ((World.laidAll Tryz.prog os Rows.editEncodingUptoRow.laid).forCall (fun _ _=>0) ⟨#[],#[.agg #[.int .i64 0,.string ⟨#[]⟩,.string ⟨#[]⟩,.slice none 0 0,.slice none 0 0],.string ⟨#[]⟩],[]⟩) 7 ⟨#[],#[.agg #[.int .i64 0,.string ⟨#[]⟩,.string ⟨#[]⟩,.slice none 0 0,.slice none 0 0],.string ⟨#[]⟩],[]⟩=true:=by kernel_rfl
 refine ⟨World.laidAll Tryz.prog os Rows.editEncodingUptoRow.laid,fun _ _=>0,⟨#[],#[.agg #[.int .i64 0,.string ⟨#[]⟩,.string ⟨#[]⟩,.slice none 0 0,.slice none 0 0],.string ⟨#[]⟩],[]⟩,World.laidAll_os _ _ _,World.shaped_of_ZipB (by kernel_rfl) (by kernel_rfl),(Input.okWide_of_okWideB (base:=0) hok).1,(Input.okWide_of_okWideB hok).2,?_,?_⟩
 ·exact OpenSpec.preRow_of_cond 8 hx1 rfl (fun k hk=>by cases hk;exact hx2) (by kernel_rfl) (by rw [MakeChecks.laidMetH_plain _ _ _ (by kernel_rfl)];exact laidMet_laidAll _ (by kernel_rfl) (by kernel_rfl))
 ·simp only [Assume.holds]
  exact ⟨by simp,by simp,fun _=>Modest.zero,by simp,by simp⟩
theorem zDo {H:Type} {B:Nat} {x:DataW H} {l gs:List (DataW H)} (h:Rows.uptoSmall H (l++gs)=true) (hx:x∈l) (hB:1048576≤B):Rows.uptoBulk x≤B:=by
 have h1:=of_decide_eq_true h;rw [zJm] at h1;have h2:=zQf (List.mem_map.2 ⟨x,List.mem_append_left gs hx,rfl⟩:Rows.uptoBulk x∈(l++gs).map Rows.uptoBulk);omega
theorem editEncoding_lifted (os:Os) (started:os.Started) (H:Type) (enc:TypeId×Value→H) (F:Stop.Interp) :
  ReturnsInHanded {} Tryz.checked os 7 .any ((Rows.OpenSpec.upto Rows.editEncodingSpec).preRow enc Tryz.prog Tryz.f7 Rows.editEncodingUptoRow.domain false Rows.editEncodingUptoRow.laid) (((Rows.OpenSpec.upto Rows.editEncodingSpec).at F).post enc Tryz.prog Tryz.f7 false true false false):=by
 refine returnsInHanded_of_row (C:=Tryz.checked) (s:=Rows.OpenSpec.upto Rows.editEncodingSpec) yDr started (by kernel_rfl) Tryz.func7 (editEncoding_witness os H enc) ?_;intro W base args ds gs before hval0 hW _ hcond _ _ _ _;have hval:∀(j:Nat) t v,Tryz.f7.params[j]?=some t→args[j]?=some v→Value.okWide Tryz.prog W .any base t v:=hval0;have hW':=hW;have hk:Rows.uptoSmall H (ds++gs)=true:=hcond _ rfl;obtain ⟨p,q,hA,hV,_,_,_⟩:=hW;rw [zCe] at hA hval;obtain ⟨v0,v1,d0,d1,p0,p1,rfl,rfl,rfl,h0,h1⟩:=trodAll_two hA
 obtain ⟨c0,rfl,_⟩:=okWide_struct Tryz.underlying39 (hval 0 39 v0 rfl rfl);obtain ⟨fuel0,hf0⟩:=h0;obtain ⟨x0,r0,z0⟩:=zZ _ _ _ hf0;obtain ⟨ao0,co0,af0,cf0,e0,i0⟩:=yBz r0;obtain rfl:c0=#[.int .i64 x0.kind,.string x0.pack,.string x0.text,.slice ao0 x0.old.length co0,.slice af0 x0.fresh.length cf0]:=Array.toList_inj.1 e0;have b0:=zVs z0 (zDo (B:=4000000) hk (by simp) (by omega));obtain ⟨y1,rfl⟩:=okWide_string Tryz.underlying9 (hval 1 9 v1 rfl rfl);obtain ⟨fuel1,hf1⟩:=h1;obtain ⟨x1,r1,z1⟩:=zGz _ _ _ hf1
 obtain rfl:y1=x1:=by have:=Reads.leafv (ReadsL.one r1);injection this
 have z1':y1.size+1≤Rows.uptoBulk d1:=z1;have b1:y1.size≤4000000:=by have:=zDo (B:=4000000) hk (show d1∈_ by simp) (by omega);omega
 refine (zHf x0 ao0 co0 af0 cf0 y1 W i0 b0 b1).mono fun e W' ⟨he,hbl⟩=>?_;subst he
 exact ⟨_,rfl,zYg rfl (by kernel_rfl) (fun t ht=>by
  rw [zCe] at ht;have ht':t∈[39,9]:=ht;simp only [List.mem_cons,List.not_mem_nil,or_false] at ht'
  rcases ht' with rfl|rfl<;>exact ⟨by kernel_rfl,of_decide_eq_true (by kernel_rfl)⟩) hW' (fun h=>by rw [h];rfl) hbl⟩
theorem editEncoding_holds:Rows.EditEncodingUptoSaid:=
 OpenClaim.holds_of_cond 7 Tryz.f7 rfl rfl rfl rfl rfl rfl rfl ⟨rfl,rfl,rfl,rfl,rfl⟩ rfl rfl rfl rfl rfl (by as_aux_lemma=>kernel_rfl) Tryz.func7 zFl
  (of_decide_eq_true (by as_aux_lemma=>kernel_rfl)) (by unfold Func.isWrapper;first|(rw [if_pos (by decide +kernel)];kernel_rfl)|(rw [if_neg (by decide +kernel)];exact ⟨rfl,rfl⟩))
  (fun os started H enc _ F=>by rw [OpenClaim.pre_eq_preRow];exact editEncoding_lifted os started H enc F)
theorem editEncoding_plain (f:FuncId) (fn:Func) (hf:Tryz.pinned.checked.prog.funcNamed "cordwood/cordwoodlaw34.EditEncoding"=some f) (hfn:Tryz.pinned.checked.prog.funcs[f]?=some fn) :
  false=Tryz.pinned.checked.prog.looks []∧∀(j:Nat) t,fn.params[j]?=some t→Tryz.pinned.checked.prog.wantsStandIn t=false:=by
 obtain rfl:f=7:=Option.some.inj ((show Tryz.prog.funcNamed "cordwood/cordwoodlaw34.EditEncoding"=some 7 by kernel_rfl).symm.trans hf) |>.symm;obtain rfl:fn=Tryz.f7:=(Option.some.inj (Tryz.func7.symm.trans hfn)).symm;refine ⟨by kernel_rfl,fun j t hj=>?_⟩;have ht:=List.mem_of_getElem? (Array.getElem?_toList.trans hj);rw [zCe] at ht;have ht':t∈[39,9]:=ht;simp only [List.mem_cons,List.not_mem_nil,or_false] at ht'
 rcases ht' with rfl|rfl
 ·exact (show Tryz.prog.wantsStandIn 39=false by kernel_rfl)
 ·exact (show Tryz.prog.wantsStandIn 9=false by kernel_rfl)
theorem editEncoding_card:Rows.EditEncodingUptoCardSaid:=
 Claim7.holds_tied_plain_at .later [] _ _ _ _ editEncoding_holds (fun _ h=>by cases h) (by as_aux_lemma=>kernel_rfl) (fun _ h=>by cases h) editEncodingUpto_row_tie rfl ⟨rfl,rfl⟩ (by as_aux_lemma=>kernel_rfl) rfl editEncoding_plain (by as_aux_lemma=>kernel_rfl)
#print axioms editEncoding_card
end Go.Proofs.YtfkjfdbjhlmjcaaGreatDoor
