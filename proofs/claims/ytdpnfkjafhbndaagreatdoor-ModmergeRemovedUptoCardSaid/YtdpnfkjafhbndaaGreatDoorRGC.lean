/- A region that draws its order: a plan for all of it but a tail that may write what was read before it. Expressions in memory apart from blocks; boxes of six cells; copying rows. -/
import Derived.Test.YtdpnfkjafhbndaaGreatDoorRG3
import Derived.Test.YtdpnfkjafhbndaaGreatDoorRXA
import Derived.Test.YtdpnfkjafhbndaaGreatDoorRSZc
import Derived.Deep.DeepCutAuto
import Derived.Laws.CopyRow
import Derived.Laws.OwnMore
namespace Go.Proofs.YtdpnfkjafhbndaaGreatDoor
section
variable {P:Program} {ops:Array Oper} {Q:Exit→Act→World→Prop} {S:World→Prop}
def planH (ops:Array Oper) (n g:Nat):List (Bool × Nat)→Array Bool→Bool
 | [],listed => Region.seqB .any ops g n listed
 | (true,i) :: p,listed => decide (i < n) && ((Region.ready .any ops listed).contains i && (Region.free .any ops listed i && planH ops n g p (listed.setIfInBounds i true)))
 | (false,i) :: p,listed => decide (i < n) && (decide (Region.ready .any ops listed = [i]) && planH ops n g p (listed.setIfInBounds i true))
def wpPlanG (P:Program) (ops:Array Oper) (Q:Exit→Act→World→Prop) (S:World→Prop) (n:Nat):List (Bool × Nat)→Act→World→Prop
 | [],a,w => wpList P ops Q (ops.toList.drop n) a w
 | (true,i) :: p,a,w => ∃ o,ops[i]? = some o∧∃ v,YieldsIf P ops S o v a∧wpPlanG P ops Q S n p (a.put o.dst v) w
 | (false,i) :: p,a,w => ∃ o,ops[i]? = some o∧if Region.wanted o (yielded ops a.tmps) = true then Oper.wp P o a w (fun a' w' => S w'∧wpPlanG P ops Q S n p a' w') Q else wpPlanG P ops Q S n p (a.put o.dst undef) w
theorem wpAnyG_plan {n g:Nat} (hsel:Region.noSelect ops = true) (hQ:∀ (c:_) (a:Act) (d:Option Tmp) (v:Value) (w:World),Q (.panic c) (a.put d v) w→Q (.panic c) a w)
  (hs:Region.sinkB .any ops n = true) (hc:Region.chainB .any ops n = true) (hn:n < ops.size) :
  ∀ (p:List (Bool × Nat)) (listed:Array Bool) (a:Act) (w:World),HeadInv .any ops n listed→planH ops n g p listed = true→S w→wpPlanG P ops Q S n p a w →
   wpAnyG P ops Q S n (fun listed' a' w' => Region.seqB .any ops g n listed' = true∧wpList P ops Q (ops.toList.drop n) a' w') p.length listed a w
 | [],listed,a,w,_,hB,_,h => by
  rw [planH] at hB;rw [wpPlanG] at h;exact ⟨hB,h⟩
 | (true,i) :: p,listed,a,w,inv,hB,hS,h => by
  rw [planH,Bool.and_eq_true,Bool.and_eq_true,Bool.and_eq_true,decide_eq_true_eq] at hB;obtain ⟨hin,hr,hf,hB⟩:=hB;rw [wpPlanG] at h;obtain ⟨o,h0,v,hy,h⟩:=h;have hr':i∈Region.ready .any ops listed:=by simpa using hr
  exact wpAnyG_first h0 (Region.noSelect_spec hsel) (fun c a w => hQ c a o.dst v w) hs hc hn hin (fun _ _ _ hL => seqB_ready hL.1) p.length listed a w inv (Region.free_spec h0 hf) hr' hy hS
   (wpAnyG_plan hsel hQ hs hc hn p _ _ w (inv.set hr' hin) hB hS h)
 | (false,i) :: p,listed,a,w,inv,hB,hS,h => by
  rw [planH,Bool.and_eq_true,Bool.and_eq_true,decide_eq_true_eq,decide_eq_true_eq] at hB;obtain ⟨hin,hr,hB⟩:=hB;rw [wpPlanG] at h;obtain ⟨o,h0,h⟩:=h;have hr':i∈Region.ready .any ops listed:=by rw [hr];simp
  refine ⟨by rw [hr];simp,fun j hj => ?_⟩;rw [hr] at hj;obtain rfl:j = i:=by simpa using hj
  refine ⟨hin,?_⟩;have ih:=fun a' w' hS' => wpAnyG_plan hsel hQ hs hc hn p (listed.setIfInBounds j true) a' w' (inv.set hr' hin) hB hS';unfold wpOp;simp only [h0]
  split
  ·rename_i hw
   rw [if_pos hw] at h;exact .inl (Oper.wp_mono (fun a' w' h' => ⟨h'.1,ih a' w' h'.1 h'.2⟩) h)
  ·rename_i hw
   rw [if_neg hw] at h;exact ⟨hS,ih _ w hS h⟩
structure PlanG (P:Program) (ops:Array Oper) (Q:Exit→Act→World→Prop) (S:World→Prop) (n:Nat) (p:List (Bool × Nat)) (a:Act) (w:World):Prop where
 of ::
 out:wpPlanG P ops Q S n p a w
def planG (ops:Array Oper) (n:Nat) (p:List (Bool × Nat)):Bool:=
 Region.noSelect ops && decide (n < ops.size) && Region.sinkB .any ops n && Region.chainB .any ops n && decide (p.length = n) && planH ops n (ops.size - n) p (Array.replicate ops.size false)
theorem region_planG {id:Nat} {a:Act} {w:World} (S:World→Prop) (n:Nat) (p:List (Bool × Nat)) (hm:P.follows .mixedOrders = true) (hk:planG ops n p = true)
  (hQ:∀ (c:_) (a:Act) (d:Option Tmp) (v:Value) (w:World),Q (.panic c) (a.put d v) w→Q (.panic c) a w) (hS:S w.drew) (h:PlanG P ops Q S n p a w.drew):(Code.region id ops true).wp P Q a w:=by
 simp only [planG,Bool.and_eq_true,decide_eq_true_eq] at hk
 obtain ⟨⟨⟨⟨⟨hsel,hn⟩,hs⟩,hc⟩,hlen⟩,hplan⟩:=hk
 have inv0:HeadInv .any ops n (Array.replicate ops.size false):=
  ⟨by simp,fun j oj _ hl => (by rw [getD_replicate_false] at hl;cases hl),fun t _ ht => getD_in (by simpa using ht) (getD_replicate_false _ _)⟩
 have H:=wpAnyG_plan (g:=ops.size - n) hsel hQ hs hc hn p _ a w.drew inv0 hplan hS h.out;have hdl:(ops.toList.drop n).length = ops.size - n:=by simp
 refine wp_region_any hm ?_
 have:=wpAny_of_G (Q:=Q) (g:=ops.size - n) (fun listed a' w' hL => by
  have:=wpAny_of_seq (md:=.any) (Q':=Q) (ops.toList.drop n) n listed a' w' (fun j => by simp [List.getElem?_drop]) (by rw [hdl];exact hL.1) hL.2
  rwa [hdl] at this) _ _ _ _ H
 rw [hlen,show n + (ops.size - n) = ops.size by omega] at this;exact this
theorem planG_end {n:Nat} {a:Act} {w:World} (h:wpList P ops Q (ops.toList.drop n) a w):PlanG P ops Q S n [] a w:=⟨by rw [wpPlanG];exact h⟩
theorem planG_take {n:Nat} {p:List (Bool × Nat)} {i:Nat} {o:Oper} {a:Act} {w:World} {v:Value} (ho:ops[i]? = some o) (hw:Region.wanted o (yielded ops a.tmps) = true) (hv:∀ w,S w→(execOp a.eval o).run P w = .ok (.value v) w)
  (h:PlanG P ops Q S n p (a.put o.dst v) w):PlanG P ops Q S n ((true,i) :: p) a w:=⟨by rw [wpPlanG];exact ⟨o,ho,v,.inl ⟨hw,hv⟩,h.out⟩⟩
theorem planG_one {n:Nat} {p:List (Bool × Nat)} {i:Nat} {o:Oper} {a:Act} {w:World} (ho:ops[i]? = some o) (hw:Region.wanted o (yielded ops a.tmps) = true)
  (h:∀ K':Act→World→Prop,Shut (∀ a w,S w→PlanG P ops Q S n p a w→K' a w)→Oper.wp P o a w K' Q):PlanG P ops Q S n ((false,i) :: p) a w:=⟨by
 rw [wpPlanG];refine ⟨o,ho,?_⟩;rw [if_pos hw]
 exact h _ (fun a w hS hL => ⟨hS,hL.out⟩)⟩
end
end Go.Proofs.YtdpnfkjafhbndaaGreatDoor
namespace Go.Proofs.YtdpnfkjafhbndaaGreatDoor
open Go.RowKit Go.Shelf
attribute [local go_sem] Oper.semAt_some
structure ExIn (w:World) (X:List Nat) (x:Ex) (a:Option Addr) (c:Nat):Prop where
  subs:Reads w X (subsT x.subs) (.slice a x.subs.length c)
  h1:x.subs.length≤c
  h2:c≤9223372036854775807
theorem ExIn.below {w w':World} {X:List Nat} {x:Ex} {a:Option Addr} {c:Nat} (h:ExIn w X x a c) (m:Bw w w'):ExIn w' X x a c:=⟨h.subs.below m,h.h1,h.h2⟩
theorem ExIn.more {w:World} {X:List Nat} {x:Ex} {a:Option Addr} {c k:Nat} (h:ExIn w X x a c) (hk:w.heap.size≤k):ExIn w (k :: X) x a c:=⟨h.subs.more hk,h.h1,h.h2⟩
theorem ExIn.fewer {w:World} {X Y:List Nat} {x:Ex} {a:Option Addr} {c:Nat} (h:ExIn w X x a c) (hs:∀ k,k∈Y→k∈X):ExIn w Y x a c:=⟨h.subs.fewer hs,h.h1,h.h2⟩
theorem ExIn.mod {w w':World} {X:List Nat} {x:Ex} {a:Option Addr} {c:Nat} (h:ExIn w X x a c) (m:Mod X w w'):ExIn w' X x a c:=⟨h.subs.mod m,h.h1,h.h2⟩
theorem mod_six (w:World) (B o:Nat) (v0 v1 v2 v3 v4 v5:Value):Mod [B] w ((((((w.setCell ⟨B,o,none⟩ v0).setCell ⟨B,o + 1,none⟩ v1).setCell ⟨B,o + 2,none⟩ v2).setCell ⟨B,o + 3,none⟩ v3).setCell ⟨B,o + 4,none⟩ v4).setCell ⟨B,o + 5,none⟩ v5):=by
 have hB:∀ o:Nat,(⟨B,o,none⟩:Addr).block∈[B]:=fun _ => List.mem_singleton.2 rfl;exact (((((((Mod.refl [B] w).setCell (hB o) v0).setCell (hB (o + 1)) v1).setCell (hB (o + 2)) v2).setCell (hB (o + 3)) v3).setCell (hB (o + 4)) v4).setCell (hB (o + 5)) v5)
theorem CBox.six {w:World} {B:Nat} {t:TypeId} {a0 a1 a2 a3 a4 a5:Value} (h:CBox w B t #[a0,a1,a2,a3,a4,a5]) (v0 v1 v2 v3 v4 v5:Value) :
  CBox ((((((w.setCell ⟨B,0,none⟩ v0).setCell ⟨B,1,none⟩ v1).setCell ⟨B,2,none⟩ v2).setCell ⟨B,3,none⟩ v3).setCell ⟨B,4,none⟩ v4).setCell ⟨B,5,none⟩ v5) B t #[v0,v1,v2,v3,v4,v5] ∧
  Mod [B] w ((((((w.setCell ⟨B,0,none⟩ v0).setCell ⟨B,1,none⟩ v1).setCell ⟨B,2,none⟩ v2).setCell ⟨B,3,none⟩ v3).setCell ⟨B,4,none⟩ v4).setCell ⟨B,5,none⟩ v5):=by
 have h0:CBox _ B t #[v0,a1,a2,a3,a4,a5]:=h.set 0 v0;have h1:CBox _ B t #[v0,v1,a2,a3,a4,a5]:=h0.set 1 v1;have h2:CBox _ B t #[v0,v1,v2,a3,a4,a5]:=h1.set 2 v2;have h3:CBox _ B t #[v0,v1,v2,v3,a4,a5]:=h2.set 3 v3;have h4:CBox _ B t #[v0,v1,v2,v3,v4,a5]:=h3.set 4 v4;exact ⟨h4.set 5 v5,by simpa using mod_six w B 0 v0 v1 v2 v3 v4 v5⟩
theorem four_boxes (w:World) (t:TypeId) (xs ys zs us:Array Value) :
  CBox ((((w.alloc (.cells xs t)).alloc (.cells ys t)).alloc (.cells zs t)).alloc (.cells us t)) w.heap.size t xs∧CBox ((((w.alloc (.cells xs t)).alloc (.cells ys t)).alloc (.cells zs t)).alloc (.cells us t)) (w.heap.size + 1) t ys ∧
  CBox ((((w.alloc (.cells xs t)).alloc (.cells ys t)).alloc (.cells zs t)).alloc (.cells us t)) (w.heap.size + 1 + 1) t zs∧CBox ((((w.alloc (.cells xs t)).alloc (.cells ys t)).alloc (.cells zs t)).alloc (.cells us t)) (w.heap.size + 1 + 1 + 1) t us ∧
  Bw w ((((w.alloc (.cells xs t)).alloc (.cells ys t)).alloc (.cells zs t)).alloc (.cells us t))∧((((w.alloc (.cells xs t)).alloc (.cells ys t)).alloc (.cells zs t)).alloc (.cells us t)).heap.size = w.heap.size + 1 + 1 + 1 + 1:=by
 refine ⟨(((CBox.new w t xs).alloc _).alloc _).alloc _,?_,?_,?_,qtrans (qtrans (qtrans (qalloc _ _) (qalloc _ _)) (qalloc _ _)) (qalloc _ _),by simp only [World.size_alloc]⟩
 ·have:=CBox.new (w.alloc (.cells xs t)) t ys
  rw [World.size_alloc] at this;exact (this.alloc _).alloc _
 ·have:=CBox.new ((w.alloc (.cells xs t)).alloc (.cells ys t)) t zs
  rw [World.size_alloc,World.size_alloc] at this;exact this.alloc _
 ·have:=CBox.new (((w.alloc (.cells xs t)).alloc (.cells ys t)).alloc (.cells zs t)) t us
  rw [World.size_alloc,World.size_alloc,World.size_alloc] at this;exact this
theorem row_six {w:World} {R i n:Nat} {t:TypeId} {cur:Array Value} (h:CBox w R t cur) (hs:cur.size = n * 6) (hi:i < n) (v0 v1 v2 v3 v4 v5:Value) :
    ∃ cur',CBox ((((((w.setCell ⟨R,i * 6,none⟩ v0).setCell ⟨R,i * 6 + 1,none⟩ v1).setCell ⟨R,i * 6 + 2,none⟩ v2).setCell ⟨R,i * 6 + 3,none⟩ v3).setCell ⟨R,i * 6 + 4,none⟩ v4).setCell ⟨R,i * 6 + 5,none⟩ v5) R t cur'∧cur'.size = n * 6 ∧
      cur'.toList.take ((i + 1) * 6) = cur.toList.take (i * 6) ++ [v0,v1,v2,v3,v4,v5]:=by
  refine ⟨_,((((((h.set _ v0).set _ v1).set _ v2).set _ v3).set _ v4).set _ v5),by simpa using hs,?_⟩
  have hl:i * 6 + 6≤cur.toList.length:=by rw [Array.length_toList,hs];omega
  simp only [Array.toList_setIfInBounds]
  generalize cur.toList = l at *
  apply List.ext_getElem?
  intro j
  simp only [List.getElem?_take,List.getElem?_append,List.length_take,List.getElem?_set,List.length_set]
  have hm:min (i * 6) l.length = i * 6:=by omega
  rw [hm]
  by_cases h1:j < i * 6
  · rw [if_pos (by omega),if_neg (by omega),if_neg (by omega),if_neg (by omega),if_neg (by omega),if_neg (by omega),if_neg (by omega),if_pos h1,if_pos h1]
  · rw [if_neg h1]
    by_cases h2:j < i * 6 + 6
    · rw [if_pos (by omega)]
      have hc:j = i * 6∨j = i * 6 + 1∨j = i * 6 + 2∨j = i * 6 + 3∨j = i * 6 + 4∨j = i * 6 + 5:=by omega
      rcases hc with rfl | rfl | rfl | rfl | rfl | rfl
      · rw [if_neg (by omega),if_neg (by omega),if_neg (by omega),if_neg (by omega),if_neg (by omega),if_pos rfl,if_pos (by omega),show i * 6 - i * 6 = 0 by omega];rfl
      · rw [if_neg (by omega),if_neg (by omega),if_neg (by omega),if_neg (by omega),if_pos rfl,if_pos (by omega),show i * 6 + 1 - i * 6 = 1 by omega];rfl
      · rw [if_neg (by omega),if_neg (by omega),if_neg (by omega),if_pos rfl,if_pos (by omega),show i * 6 + 2 - i * 6 = 2 by omega];rfl
      · rw [if_neg (by omega),if_neg (by omega),if_pos rfl,if_pos (by omega),show i * 6 + 3 - i * 6 = 3 by omega];rfl
      · rw [if_neg (by omega),if_pos rfl,if_pos (by omega),show i * 6 + 4 - i * 6 = 4 by omega];rfl
      · rw [if_pos rfl,if_pos (by omega),show i * 6 + 5 - i * 6 = 5 by omega];rfl
    · rw [if_neg (by omega),List.getElem?_eq_none (by simp;omega)]
theorem run_copy_rows {P:Program} (w:World) (dT sT ty elem:TypeId) (sz g n dCap:Nat) (a:Addr) (sCap:Nat) (cur:Array Value) (t:TypeId) (cs:List Value)
    (hu:P.underlying dT = some (.slice elem)) (hs:(P.info? elem).map (·.size) = some sz)
    (hg:w.heap[g]? = some (.cells cur t (0,0))) (hn:cs.length = n * sz)
    (hsrc:∀ j v,cs[j]? = some v→w.cell? (a.add j) = some v) (hfit:cs.length = cur.size) (h1:∀ v∈cs,v.oneCell' = true) :
    (Builtin.copy_ #[dT,sT] ty #[.slice (some ⟨g,0,none⟩) n dCap,.slice (some a) n sCap]).run P w = .ok (goInt n) (w.setRow g cs.toArray):=by
  have hl:=run_loadCells_list (P:=P) w a cs hsrc
  have hst:=run_storeCells_at P g 0 t cs 0 cur w hg (by omega) h1
  have e:(cur.toList.take (0 + 0) ++ cs ++ cur.toList.drop (0 + 0 + cs.length)).toArray = cs.toArray:=by
    rw [Nat.add_zero,List.take_zero,List.nil_append,Nat.zero_add,List.drop_eq_nil_of_le (by simp;omega),List.append_nil]
  rw [e] at hst
  cases hq:P.info? elem with
  | none => simp [hq] at hs
  | some i =>
    have hi:i.size = sz:=by simpa [hq] using hs
    simp [Builtin.copy_,run_underlying hu,Builtin.lenOf,Builtin.firstCells,sizeOf,typeInfo,hq,hi,← hn,hl,hst]
end Go.Proofs.YtdpnfkjafhbndaaGreatDoor

