/- ModmergeSettle: true, and its arguments read as before, where what it reads is of the bulk of the second form: the tied card. -/
import Derived.Test.YtdpnfkjafhbndaaGreatDoorSFin
import Derived.Test.YtdpnfkjafhbndaaGreatDoorSG5
import Derived.Test.YtdpnfkjafhbndaaGreatDoorSGF
import Derived.Test.YtdpnfkjafhbndaaGreatDoorSLwModmergeSettle
import Derived.Deep.DeepHandedRow
import Derived.Lib.LaidTab
import Derived.Stop.LaidErr
namespace Go.Proofs.YtdpnfkjafhbndaaGreatDoor
open Go.RowKit Go.ChangeShapes Go.WideShapes Go.ChangeAt
theorem modmergeSettle_params:Tryz.f12.params = #[52,54,3]:=Tryz.params12
theorem modmergeSettle_witness (os:Os) (H:Type) (enc:TypeId × Value→H):∃ (w:World) (tape:Tape) (i:Input),w.os = os∧(w.forCall tape i).Shaped Tryz.checked.prog∧i.vars = []∧Input.okWide Tryz.checked.prog (w.forCall tape i) .any w.heap.size 12 i ∧
  (Rows.OpenSpec.upto Rows.modmergeSettleSpec).preRow enc Tryz.checked.prog Tryz.f12 Rows.modmergeSettleUptoRow.domain false Rows.modmergeSettleUptoRow.laid (w.forCall tape i).memory i.args∧({}:Assume).holds Tryz.checked.prog (lone (Frame.enter Tryz.checked.prog 12 i.args .normal) [] (w.forCall tape i)):=by
 have hx:(DataW.whole enc Tryz.prog ((World.laidAll Tryz.prog os Rows.modmergeSettleUptoRow.laid).forCall (fun _ _ => 0) ⟨#[],#[.agg #[.string ⟨#[]⟩,.slice none 0 0,.slice none 0 0],.agg #[.string ⟨#[]⟩,.int .i64 0,.int .i64 0,.int .i64 0],.int .i64 0],[]⟩).memory Tryz.f12.params.toList Rows.modmergeSettleSpec.vars false #[.agg #[.string ⟨#[]⟩,.slice none 0 0,.slice none 0 0],.agg #[.string ⟨#[]⟩,.int .i64 0,.int .i64 0,.int .i64 0],.int .i64 0].toList 8).map (fun x => Rows.uptoSmall H (x.1 ++ x.2.1)) = some true:=by kernel_rfl
 obtain ⟨x,hx1,hx2⟩:=Option.map_eq_some_iff.1 hx;have hok:Input.okWideB Tryz.prog ((World.laidAll Tryz.prog os Rows.modmergeSettleUptoRow.laid).forCall (fun _ _ => 0) ⟨#[],#[.agg #[.string ⟨#[]⟩,.slice none 0 0,.slice none 0 0],.agg #[.string ⟨#[]⟩,.int .i64 0,.int .i64 0,.int .i64 0],.int .i64 0],[]⟩) 12 ⟨#[],#[.agg #[.string ⟨#[]⟩,.slice none 0 0,.slice none 0 0],.agg #[.string ⟨#[]⟩,.int .i64 0,.int .i64 0,.int .i64 0],.int .i64 0],[]⟩ = true:=by kernel_rfl
 refine ⟨World.laidAll Tryz.prog os Rows.modmergeSettleUptoRow.laid,fun _ _ => 0,⟨#[],#[.agg #[.string ⟨#[]⟩,.slice none 0 0,.slice none 0 0],.agg #[.string ⟨#[]⟩,.int .i64 0,.int .i64 0,.int .i64 0],.int .i64 0],[]⟩,World.laidAll_os _ _ _,World.shaped_of_ZipB (by kernel_rfl) (by kernel_rfl),(Input.okWide_of_okWideB (base:=0) hok).1,(Input.okWide_of_okWideB hok).2,?_,?_⟩
 ·exact OpenSpec.preRow_of_cond 8 hx1 rfl (fun k hk => by cases hk;exact hx2) (by kernel_rfl) (by rw [MakeChecks.laidMetH_plain _ _ _ (by kernel_rfl)];exact laidMet_laidAll _ (by kernel_rfl) (by kernel_rfl))
 ·simp only [Assume.holds]
  exact ⟨by simp,by simp,fun _ => Modest.zero,by simp,by simp⟩
theorem modmergeSettle_bulk {H:Type} {B:Nat} {x:DataW H} {l gs:List (DataW H)} (h:Rows.uptoSmall H (l ++ gs) = true) (hx:x∈l) (hB:1048576≤B):Rows.uptoBulk x≤B:=by
 have h1:=of_decide_eq_true h;rw [bulkAll_sum] at h1;have h2:=mem_sum (List.mem_map.2 ⟨x,List.mem_append_left gs hx,rfl⟩:Rows.uptoBulk x∈(l ++ gs).map Rows.uptoBulk);omega
theorem modmergeSettle_tab {W:World} (h:laidMetH Tryz.prog Rows.modmergeSettleUptoRow.laid W):Lib.TabIs Tryz.prog W "internal/strconv.uint64pow10" .u64 Lib.pow10Tab:=by
 rw [MakeChecks.laidMetH_plain _ _ _ (by kernel_rfl)] at h;have h2:laidMet Tryz.prog (("internal/strconv.uint64pow10",Rows.laid_internal_strconv_uint64pow10) :: [("unicode/utf8.acceptRanges",Rows.laid_unicode_utf8_acceptRanges),("unicode/utf8.first",Rows.laid_unicode_utf8_first)]) W:=h.tail.tail;have e:(Rows.laid_internal_strconv_uint64pow10:DataW Unit) = Lib.tabData .u64 Lib.pow10Tab:=by kernel_rfl
 rw [e] at h2;exact Lib.tabIs_of_head (g:=1) (t:=284) (e:=255) (n:=20) (by kernel_rfl) (by kernel_rfl) (by kernel_rfl) Tryz.underlying255 (by kernel_rfl) (by kernel_rfl) h2
set_option maxRecDepth 100000 in
theorem modmergeSettle_lifted (os:Os) (started:os.Started) (H:Type) (enc:TypeId × Value→H) (F:Stop.Interp) :
  ReturnsInHanded {} Tryz.checked os 12 .any ((Rows.OpenSpec.upto Rows.modmergeSettleSpec).preRow enc Tryz.prog Tryz.f12 Rows.modmergeSettleUptoRow.domain false Rows.modmergeSettleUptoRow.laid) (((Rows.OpenSpec.upto Rows.modmergeSettleSpec).at F).post enc Tryz.prog Tryz.f12 false true false false):=by
 refine returnsInHanded_of_row (C:=Tryz.checked) (s:=Rows.OpenSpec.upto Rows.modmergeSettleSpec) ownK started (by kernel_rfl) Tryz.func12 (modmergeSettle_witness os H enc) ?_;intro W base args ds gs before hval0 hW _ hcond _ hlaid _ _;have hval:∀ (j:Nat) t v,Tryz.f12.params[j]? = some t→args[j]? = some v→Value.okWide Tryz.prog W .any base t v:=hval0;have hW':=hW;have hk:Rows.uptoSmall H (ds ++ gs) = true:=hcond _ rfl;obtain ⟨p,q,hA,hV,_,_,_⟩:=hW;rw [modmergeSettle_params] at hA hval
 obtain ⟨v0,v1,v2,d0,d1,d2,p0,p1,p2,rfl,rfl,rfl,h0,h1,h2⟩:=trodAll_three hA;obtain ⟨c0,rfl,_⟩:=okWide_struct Tryz.underlying52 (hval 0 52 v0 rfl rfl);obtain ⟨fuel0,hf0⟩:=h0;obtain ⟨x0,r0,z0⟩:=opb_mod _ _ _ hf0;obtain ⟨au0,cu0,ad0,cd0,e0,i0⟩:=mod_in r0;obtain rfl:c0 = #[.string x0.label,.slice au0 x0.uses.length cu0,.slice ad0 x0.decls.length cd0]:=Array.toList_inj.1 e0;have b0:=modB_big z0 (modmergeSettle_bulk (B:=4000000) hk (by simp) (by omega));obtain ⟨c1,rfl,_⟩:=okWide_struct Tryz.underlying54 (hval 1 54 v1 rfl rfl)
 obtain ⟨fuel1,hf1⟩:=h1;obtain ⟨x1,r1,z1⟩:=opb_spot _ _ _ hf1;obtain rfl:c1 = #[.string x1.pack,.int .i64 x1.kind,.int .i64 x1.id,.int .i64 x1.pos]:=Array.toList_inj.1 (spot_in r1);have b1:x1.pack.size≤4000000:=Nat.le_trans z1 (modmergeSettle_bulk (B:=4000000) hk (show d1∈_ by simp) (by omega));obtain ⟨x2,rfl,rfl,rfl,z2⟩:=open_int Tryz.underlying3 (hval 2 3 v2 rfl rfl) h2
 refine (LModmergeSettle_any x0 x1 x2 au0 ad0 cu0 cd0 W i0 b0 b1 (by simp [Lit.wf,IntKind.min,IntKind.max,IntKind.signed,IntKind.bits] at z2;omega) (by simp [Lit.wf,IntKind.min,IntKind.max,IntKind.signed,IntKind.bits] at z2;omega) (modmergeSettle_tab hlaid)).mono fun e W' ⟨he,hbl⟩ => ?_;subst he
 exact ⟨_,rfl,law_post rfl (by kernel_rfl) (fun t ht => by
  rw [modmergeSettle_params] at ht;have ht':t∈[52,54,3]:=ht;simp only [List.mem_cons,List.not_mem_nil,or_false] at ht'
  rcases ht' with rfl | rfl | rfl <;> exact ⟨by kernel_rfl,of_decide_eq_true (by kernel_rfl)⟩) hW' (fun h => by rw [h];rfl) hbl⟩
theorem modmergeSettle_holds:Rows.ModmergeSettleUptoSaid:=
 OpenClaim.holds_of_cond 12 Tryz.f12 rfl rfl rfl rfl rfl rfl rfl ⟨rfl,rfl,rfl,rfl,rfl⟩ rfl rfl rfl rfl rfl (by as_aux_lemma => kernel_rfl) Tryz.func12 modmergeSettle_closed
  (of_decide_eq_true (by as_aux_lemma => kernel_rfl)) (by unfold Func.isWrapper;first | (rw [if_pos (by decide +kernel)];kernel_rfl) | (rw [if_neg (by decide +kernel)];exact ⟨rfl,rfl⟩))
  (fun os started H enc _ F => by rw [OpenClaim.pre_eq_preRow];exact modmergeSettle_lifted os started H enc F)
theorem modmergeSettle_plain (f:FuncId) (fn:Func) (hf:Tryz.pinned.checked.prog.funcNamed "cordwood/cordwoodlaw33.ModmergeSettle" = some f) (hfn:Tryz.pinned.checked.prog.funcs[f]? = some fn) :
  false = Tryz.pinned.checked.prog.looks []∧∀ (j:Nat) t,fn.params[j]? = some t→Tryz.pinned.checked.prog.wantsStandIn t = false:=by
 obtain rfl:f = 12:=Option.some.inj ((show Tryz.prog.funcNamed "cordwood/cordwoodlaw33.ModmergeSettle" = some 12 by kernel_rfl).symm.trans hf) |>.symm;obtain rfl:fn = Tryz.f12:=(Option.some.inj (Tryz.func12.symm.trans hfn)).symm;refine ⟨by kernel_rfl,fun j t hj => ?_⟩;have ht:=List.mem_of_getElem? (Array.getElem?_toList.trans hj);rw [modmergeSettle_params] at ht;have ht':t∈[52,54,3]:=ht;simp only [List.mem_cons,List.not_mem_nil,or_false] at ht'
 rcases ht' with rfl | rfl | rfl
 ·exact (show Tryz.prog.wantsStandIn 52 = false by kernel_rfl)
 ·exact (show Tryz.prog.wantsStandIn 54 = false by kernel_rfl)
 ·exact (show Tryz.prog.wantsStandIn 3 = false by kernel_rfl)
theorem modmergeSettle_card:Rows.ModmergeSettleUptoCardSaid:=
 Claim7.holds_tied_plain_at .later [] _ _ _ _ modmergeSettle_holds (fun _ h => by cases h) (by as_aux_lemma => kernel_rfl) (fun _ h => by cases h) modmergeSettleUpto_row_tie rfl ⟨rfl,rfl⟩ (by as_aux_lemma => kernel_rfl) rfl modmergeSettle_plain (by as_aux_lemma => kernel_rfl)
#print axioms modmergeSettle_card
end Go.Proofs.YtdpnfkjafhbndaaGreatDoor

