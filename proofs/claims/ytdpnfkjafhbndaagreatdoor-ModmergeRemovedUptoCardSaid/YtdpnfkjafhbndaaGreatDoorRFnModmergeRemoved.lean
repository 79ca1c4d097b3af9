/- ModmergeRemoved: true, and its arguments read as before, where what it reads is of the bulk of the second form: the tied card. -/
import Derived.Test.YtdpnfkjafhbndaaGreatDoorRFin
import Derived.Test.YtdpnfkjafhbndaaGreatDoorRG5
import Derived.Test.YtdpnfkjafhbndaaGreatDoorRLwModmergeRemoved
import Derived.Deep.DeepHandedRow
import Derived.Lib.LaidTab
import Derived.Stop.LaidErr
namespace Go.Proofs.YtdpnfkjafhbndaaGreatDoor
open Go.RowKit Go.ChangeShapes Go.WideShapes Go.ChangeAt
theorem modmergeRemoved_params:Tryz.f13.params = #[52,5,66,4]:=Tryz.params13
theorem modmergeRemoved_witness (os:Os) (H:Type) (enc:TypeId × Value→H):∃ (w:World) (tape:Tape) (i:Input),w.os = os∧(w.forCall tape i).Shaped Tryz.checked.prog∧i.vars = []∧Input.okWide Tryz.checked.prog (w.forCall tape i) .any w.heap.size 13 i ∧
  (Rows.OpenSpec.upto Rows.modmergeRemovedSpec).preRow enc Tryz.checked.prog Tryz.f13 Rows.modmergeRemovedUptoRow.domain false Rows.modmergeRemovedUptoRow.laid (w.forCall tape i).memory i.args∧({}:Assume).holds Tryz.checked.prog (lone (Frame.enter Tryz.checked.prog 13 i.args .normal) [] (w.forCall tape i)):=by
 have hx:(DataW.whole enc Tryz.prog ((World.laidAll Tryz.prog os Rows.modmergeRemovedUptoRow.laid).forCall (fun _ _ => 0) ⟨#[],#[.agg #[.string ⟨#[]⟩,.slice none 0 0,.slice none 0 0],.int .u8 0,.agg #[.int .i64 0,.string ⟨#[]⟩,.string ⟨#[]⟩,.int .i64 0,.int .i64 0,.slice none 0 0],.bool false],[]⟩).memory Tryz.f13.params.toList Rows.modmergeRemovedSpec.vars false #[.agg #[.string ⟨#[]⟩,.slice none 0 0,.slice none 0 0],.int .u8 0,.agg #[.int .i64 0,.string ⟨#[]⟩,.string ⟨#[]⟩,.int .i64 0,.int .i64 0,.slice none 0 0],.bool false].toList 8).map (fun x => Rows.uptoSmall H (x.1 ++ x.2.1)) = some true:=by kernel_rfl
 obtain ⟨x,hx1,hx2⟩:=Option.map_eq_some_iff.1 hx;have hok:Input.okWideB Tryz.prog ((World.laidAll Tryz.prog os Rows.modmergeRemovedUptoRow.laid).forCall (fun _ _ => 0) ⟨#[],#[.agg #[.string ⟨#[]⟩,.slice none 0 0,.slice none 0 0],.int .u8 0,.agg #[.int .i64 0,.string ⟨#[]⟩,.string ⟨#[]⟩,.int .i64 0,.int .i64 0,.slice none 0 0],.bool false],[]⟩) 13 ⟨#[],#[.agg #[.string ⟨#[]⟩,.slice none 0 0,.slice none 0 0],.int .u8 0,.agg #[.int .i64 0,.string ⟨#[]⟩,.string ⟨#[]⟩,.int .i64 0,.int .i64 0,.slice none 0 0],.bool false],[]⟩ = true:=by kernel_rfl
 refine ⟨World.laidAll Tryz.prog os Rows.modmergeRemovedUptoRow.laid,fun _ _ => 0,⟨#[],#[.agg #[.string ⟨#[]⟩,.slice none 0 0,.slice none 0 0],.int .u8 0,.agg #[.int .i64 0,.string ⟨#[]⟩,.string ⟨#[]⟩,.int .i64 0,.int .i64 0,.slice none 0 0],.bool false],[]⟩,World.laidAll_os _ _ _,World.shaped_of_ZipB (by kernel_rfl) (by kernel_rfl),(Input.okWide_of_okWideB (base:=0) hok).1,(Input.okWide_of_okWideB hok).2,?_,?_⟩
 ·exact OpenSpec.preRow_of_cond 8 hx1 rfl (fun k hk => by cases hk;exact hx2) (by kernel_rfl) (by rw [MakeChecks.laidMetH_plain _ _ _ (by kernel_rfl)];exact laidMet_laidAll _ (by kernel_rfl) (by kernel_rfl))
 ·simp only [Assume.holds]
  exact ⟨by simp,by simp,fun _ => Modest.zero,by simp,by simp⟩
theorem modmergeRemoved_bulk {H:Type} {B:Nat} {x:DataW H} {l gs:List (DataW H)} (h:Rows.uptoSmall H (l ++ gs) = true) (hx:x∈l) (hB:1048576≤B):Rows.uptoBulk x≤B:=by
 have h1:=of_decide_eq_true h;rw [bulkAll_sum] at h1;have h2:=mem_sum (List.mem_map.2 ⟨x,List.mem_append_left gs hx,rfl⟩:Rows.uptoBulk x∈(l ++ gs).map Rows.uptoBulk);omega
theorem modmergeRemoved_tab {W:World} (h:laidMetH Tryz.prog Rows.modmergeRemovedUptoRow.laid W):Lib.TabIs Tryz.prog W "internal/strconv.uint64pow10" .u64 Lib.pow10Tab:=by
 rw [MakeChecks.laidMetH_plain _ _ _ (by kernel_rfl)] at h;have h2:laidMet Tryz.prog (("internal/strconv.uint64pow10",Rows.laid_internal_strconv_uint64pow10) :: [("unicode/utf8.acceptRanges",Rows.laid_unicode_utf8_acceptRanges),("unicode/utf8.first",Rows.laid_unicode_utf8_first)]) W:=h.tail.tail;have e:(Rows.laid_internal_strconv_uint64pow10:DataW Unit) = Lib.tabData .u64 Lib.pow10Tab:=by kernel_rfl
 rw [e] at h2;exact Lib.tabIs_of_head (g:=1) (t:=284) (e:=255) (n:=20) (by kernel_rfl) (by kernel_rfl) (by kernel_rfl) Tryz.underlying255 (by kernel_rfl) (by kernel_rfl) h2
set_option maxRecDepth 100000 in
theorem modmergeRemoved_lifted (os:Os) (started:os.Started) (H:Type) (enc:TypeId × Value→H) (F:Stop.Interp) :
  ReturnsInHanded {} Tryz.checked os 13 .any ((Rows.OpenSpec.upto Rows.modmergeRemovedSpec).preRow enc Tryz.prog Tryz.f13 Rows.modmergeRemovedUptoRow.domain false Rows.modmergeRemovedUptoRow.laid) (((Rows.OpenSpec.upto Rows.modmergeRemovedSpec).at F).post enc Tryz.prog Tryz.f13 false true false false):=by
 refine returnsInHanded_of_row (C:=Tryz.checked) (s:=Rows.OpenSpec.upto Rows.modmergeRemovedSpec) ownK started (by kernel_rfl) Tryz.func13 (modmergeRemoved_witness os H enc) ?_;intro W base args ds gs before hval0 hW _ hcond _ hlaid _ _;have hval:∀ (j:Nat) t v,Tryz.f13.params[j]? = some t→args[j]? = some v→Value.okWide Tryz.prog W .any base t v:=hval0;have hW':=hW;have hk:Rows.uptoSmall H (ds ++ gs) = true:=hcond _ rfl;obtain ⟨p,q,hA,hV,_,_,_⟩:=hW;rw [modmergeRemoved_params] at hA hval
 obtain ⟨v0,v1,v2,v3,d0,d1,d2,d3,p0,p1,p2,p3,rfl,rfl,rfl,h0,h1,h2,h3⟩:=trodAll_four hA;obtain ⟨c0,rfl,_⟩:=okWide_struct Tryz.underlying52 (hval 0 52 v0 rfl rfl);obtain ⟨fuel0,hf0⟩:=h0;obtain ⟨x0,r0,z0⟩:=opb_mod _ _ _ hf0;obtain ⟨au0,cu0,ad0,cd0,e0,i0⟩:=mod_in r0;obtain rfl:c0 = #[.string x0.label,.slice au0 x0.uses.length cu0,.slice ad0 x0.decls.length cd0]:=Array.toList_inj.1 e0;have b0:=modB_big z0 (modmergeRemoved_bulk (B:=4000000) hk (by simp) (by omega))
 obtain ⟨y1,rfl,rfl,rfl,z1⟩:=open_int Tryz.underlying5 (hval 1 5 v1 rfl rfl) h1;simp [Lit.wf,IntKind.min,IntKind.max,IntKind.signed,IntKind.bits] at z1
 obtain ⟨x1,rfl⟩:=Int.eq_ofNat_of_zero_le (show 0≤y1 by omega);obtain ⟨c2,rfl,_⟩:=okWide_struct Tryz.underlying66 (hval 2 66 v2 rfl rfl);obtain ⟨fuel2,hf2⟩:=h2;obtain ⟨x2,r2,z2⟩:=opb_expr _ _ _ hf2;obtain ⟨ax2,cx2,e2,g2,g2',r2'⟩:=expr_cells r2;obtain rfl:c2 = #[.int .i64 x2.kind,.string x2.name,.string x2.more,.int .i64 x2.num,.int .i64 x2.den,.slice ax2 x2.subs.length cx2]:=Array.toList_inj.1 e2;have u2:=modmergeRemoved_bulk (B:=4000000) hk (show d2∈_ by simp) (by omega);have z2a:nodesN x2≤Rows.uptoBulk d2:=z2.1
 have z2b:SmX (Rows.uptoBulk d2) x2:=z2.2;obtain ⟨x3,rfl,rfl,rfl⟩:=open_bool Tryz.underlying4 (hval 3 4 v3 rfl rfl) h3;refine (LModmergeRemoved_any x0 x1 x2 x3 au0 ad0 ax2 cu0 cd0 cx2 W i0 ⟨r2',g2,g2'⟩ b0 (z2b.mono (by omega)) (by omega) (by omega) (modmergeRemoved_tab hlaid)).mono fun e W' ⟨he,hbl⟩ => ?_;subst he
 exact ⟨_,rfl,law_post rfl (by kernel_rfl) (fun t ht => by
  rw [modmergeRemoved_params] at ht;have ht':t∈[52,5,66,4]:=ht;simp only [List.mem_cons,List.not_mem_nil,or_false] at ht'
  rcases ht' with rfl | rfl | rfl | rfl <;> exact ⟨by kernel_rfl,of_decide_eq_true (by kernel_rfl)⟩) hW' (fun h => by rw [h];rfl) hbl⟩
theorem modmergeRemoved_holds:Rows.ModmergeRemovedUptoSaid:=
 OpenClaim.holds_of_cond 13 Tryz.f13 rfl rfl rfl rfl rfl rfl rfl ⟨rfl,rfl,rfl,rfl,rfl⟩ rfl rfl rfl rfl rfl (by as_aux_lemma => kernel_rfl) Tryz.func13 modmergeRemoved_closed
  (of_decide_eq_true (by as_aux_lemma => kernel_rfl)) (by unfold Func.isWrapper;first | (rw [if_pos (by decide +kernel)];kernel_rfl) | (rw [if_neg (by decide +kernel)];exact ⟨rfl,rfl⟩))
  (fun os started H enc _ F => by rw [OpenClaim.pre_eq_preRow];exact modmergeRemoved_lifted os started H enc F)
theorem modmergeRemoved_plain (f:FuncId) (fn:Func) (hf:Tryz.pinned.checked.prog.funcNamed "cordwood/cordwoodlaw33.ModmergeRemoved" = some f) (hfn:Tryz.pinned.checked.prog.funcs[f]? = some fn) :
  false = Tryz.pinned.checked.prog.looks []∧∀ (j:Nat) t,fn.params[j]? = some t→Tryz.pinned.checked.prog.wantsStandIn t = false:=by
 obtain rfl:f = 13:=Option.some.inj ((show Tryz.prog.funcNamed "cordwood/cordwoodlaw33.ModmergeRemoved" = some 13 by kernel_rfl).symm.trans hf) |>.symm;obtain rfl:fn = Tryz.f13:=(Option.some.inj (Tryz.func13.symm.trans hfn)).symm;refine ⟨by kernel_rfl,fun j t hj => ?_⟩;have ht:=List.mem_of_getElem? (Array.getElem?_toList.trans hj);rw [modmergeRemoved_params] at ht;have ht':t∈[52,5,66,4]:=ht;simp only [List.mem_cons,List.not_mem_nil,or_false] at ht'
 rcases ht' with rfl | rfl | rfl | rfl
 ·exact (show Tryz.prog.wantsStandIn 52 = false by kernel_rfl)
 ·exact (show Tryz.prog.wantsStandIn 5 = false by kernel_rfl)
 ·exact (show Tryz.prog.wantsStandIn 66 = false by kernel_rfl)
 ·exact (show Tryz.prog.wantsStandIn 4 = false by kernel_rfl)
theorem modmergeRemoved_card:Rows.ModmergeRemovedUptoCardSaid:=
 Claim7.holds_tied_plain_at .later [] _ _ _ _ modmergeRemoved_holds (fun _ h => by cases h) (by as_aux_lemma => kernel_rfl) (fun _ h => by cases h) modmergeRemovedUpto_row_tie rfl ⟨rfl,rfl⟩ (by as_aux_lemma => kernel_rfl) rfl modmergeRemoved_plain (by as_aux_lemma => kernel_rfl)
#print axioms modmergeRemoved_card
end Go.Proofs.YtdpnfkjafhbndaaGreatDoor

