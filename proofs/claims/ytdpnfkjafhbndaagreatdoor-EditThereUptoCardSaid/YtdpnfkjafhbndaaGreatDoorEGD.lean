/- A drawn region in whose head two blocks are allocated, whenever: they are two. -/
import Derived.Test.YtdpnfkjafhbndaaGreatDoorEG8
import Derived.Test.YtdpnfkjafhbndaaGreatDoorEBA
namespace Go.Proofs.YtdpnfkjafhbndaaGreatDoor
open Go.RowKit Go.Shelf
attribute [local go_sem] Oper.semAt_some
section
variable {P:Program} {ops:Array Oper} {Q:Exit→Act→World→Prop}
structure ID (n A B base:Nat) (bx:Nat→World→Prop) (R:Nat→Value→World→Prop) (l:Nat→Bool) (vals:Nat→Value) (w:World):Prop where
  rel:∀ i,i < n→i≠A→i≠B→l i = true→R i (vals i) w
  fa:l A = true→∃ k,base≤k∧k < w.heap.size∧vals A = .pointer (some ⟨k,0,none⟩)∧bx k w
  fb:l B = true→∃ k,base≤k∧k < w.heap.size∧vals B = .pointer (some ⟨k,0,none⟩)∧bx k w
  ne:l A = true→l B = true→vals A≠vals B
theorem region_relD {id:Nat} {a0:Act} {w:World} (n A B:Nat) (bx:Nat→World→Prop) (R:Nat→Value→World→Prop) (hA:A < n) (hB:B < n) (hAB:A≠B) (hm:P.follows .mixedOrders = true) (hk:relB ops n = true) (hQ:∀ c a w,¬ Q (.panic c) a w)
  (hb:((List.range n).all fun i => match dstR ops i with | some t => decide (t < a0.tmps.size) | none => true) = true)
  (hR:∀ i v w w',R i v w→Below w.heap.size w w'→R i v w') (hbx:∀ k w w',bx k w→k < w.heap.size→Below w.heap.size w w'→bx k w')
  (halloc:∀ i o,(i = A∨i = B)→ops[i]? = some o→o.guard = none∧∀ a w,∀ K:Act→World→Prop,Shut (∀ w',Below w.heap.size w w'→w.heap.size < w'.heap.size→bx w.heap.size w'→K (a.put o.dst (.pointer (some ⟨w.heap.size,0,none⟩))) w')→Oper.wp P o a w K Q)
  (hneedAB:((List.range n).all fun i => match ops[i]? with | some o => !(needsR o).contains A && !(needsR o).contains B | none => true) = true)
  (hstep:∀ i o,i < n→i≠A→i≠B→ops[i]? = some o→StepP P ops Q n R a0 w i o)
  (hend:∀ k m vals w',Below w.heap.size w w'→w.heap.size≤k→w.heap.size≤m→k < w'.heap.size→m < w'.heap.size→k≠m→vals A = .pointer (some ⟨k,0,none⟩)→vals B = .pointer (some ⟨m,0,none⟩)→bx k w'→bx m w'→(∀ i,i < n→i≠A→i≠B→R i (vals i) w')→wpList P ops Q (ops.toList.drop n) (fullR ops a0 vals n) w') :
  (Code.region id ops true).wp P Q a0 w:=by
 have hn:n < ops.size:=by
  unfold relB at hk;simp only [Bool.and_eq_true,decide_eq_true_eq] at hk
  exact hk.1.1.1.1.2
 refine region_inv n (ID n A B w.heap.size bx R) hm hk hQ hb ?_ (fun i o hi ho l vals w1 hbw hl hneed inv => ?_) (fun l vals w1 hbw hall inv => ?_)
 ·have hz:∀ i,i < n→decide (n≤i∧ops.size≤i) = false:=fun i hi => decide_eq_false (by omega)
  exact ⟨fun i hi _ _ h => (by rw [hz i hi] at h;cases h),fun h => (by rw [hz A hA] at h;cases h),fun h => (by rw [hz B hB] at h;cases h),fun h _ => (by rw [hz A hA] at h;cases h)⟩
 ·have hlt:∀ j,j∈needsR o→j < n∧j≠A∧j≠B:=fun j hj => by
   refine ⟨?_,?_⟩
   ·unfold relB at hk
    simp only [Bool.and_eq_true,decide_eq_true_eq] at hk
    have:=(oneRB_spec (relB_one hk.1.2 hi ho)).2.2.1 j hj;omega
   ·have:=List.all_eq_true.1 hneedAB i (List.mem_range.2 hi)
    rw [ho] at this;simp only [Bool.and_eq_true,Bool.not_eq_true',List.contains_eq_mem,decide_eq_false_iff_not] at this
    exact ⟨fun e => this.1 (e ▸ hj),fun e => this.2 (e ▸ hj)⟩
  by_cases hiA:i = A
  ·subst hiA
   obtain ⟨hg,hal⟩:=halloc i o (.inl rfl) ho;refine .inl ⟨wanted_none hg,fun K hK => hal _ w1 K (fun w' h1 h2 h3 => hK _ w' (hbw.trans (h1.mono hbw.size)) ⟨fun j hj hjA hjB hlj => ?_,fun _ => ?_,fun h => ?_,fun _ h => ?_⟩)⟩
   ·rw [if_neg hjA] at hlj ⊢
    exact hR _ _ _ _ (inv.rel j hj hjA hjB hlj) h1
   ·exact ⟨w1.heap.size,hbw.size,h2,if_pos rfl,h3⟩
   ·rw [if_neg (fun e => hAB e.symm)] at h ⊢
    obtain ⟨k,e1,e2,e3,e4⟩:=inv.fb h;exact ⟨k,e1,Nat.lt_of_lt_of_le e2 h1.size,e3,hbx _ _ _ e4 e2 h1⟩
   ·rw [if_pos rfl,if_neg (fun e => hAB e.symm)]
    rw [if_neg (fun e => hAB e.symm)] at h;obtain ⟨k,e1,e2,e3,e4⟩:=inv.fb h;rw [e3];intro e
    injection e with e
    injection e with e
    injection e with e
    omega
  by_cases hiB:i = B
  ·subst hiB
   obtain ⟨hg,hal⟩:=halloc i o (.inr rfl) ho;refine .inl ⟨wanted_none hg,fun K hK => hal _ w1 K (fun w' h1 h2 h3 => hK _ w' (hbw.trans (h1.mono hbw.size)) ⟨fun j hj hjA hjB hlj => ?_,fun h => ?_,fun _ => ?_,fun h _ => ?_⟩)⟩
   ·rw [if_neg hjB] at hlj ⊢
    exact hR _ _ _ _ (inv.rel j hj hjA hjB hlj) h1
   ·rw [if_neg hAB] at h ⊢
    obtain ⟨k,e1,e2,e3,e4⟩:=inv.fa h;exact ⟨k,e1,Nat.lt_of_lt_of_le e2 h1.size,e3,hbx _ _ _ e4 e2 h1⟩
   ·exact ⟨w1.heap.size,hbw.size,h2,if_pos rfl,h3⟩
   ·rw [if_pos rfl,if_neg hAB]
    rw [if_neg hAB] at h;obtain ⟨k,e1,e2,e3,e4⟩:=inv.fa h;rw [e3];intro e
    injection e with e
    injection e with e
    injection e with e
    omega
  have hA':¬ A = i:=fun e => hiA e.symm;have hB':¬ B = i:=fun e => hiB e.symm
  have hfin:∀ v w',Below w1.heap.size w1 w'→R i v w'→ID n A B w.heap.size bx R (fun j => if j = i then true else l j) (fun j => if j = i then v else vals j) w':=fun v w' h1 h2 => by
   refine ⟨fun j hj hjA hjB hlj => ?_,fun h => ?_,fun h => ?_,fun h k => ?_⟩
   ·(try dsimp only at hlj ⊢)
    by_cases hji:j = i
    ·subst hji;rw [if_pos rfl];exact h2
    ·rw [if_neg hji] at hlj ⊢
     exact hR _ _ _ _ (inv.rel j hj hjA hjB hlj) h1
   ·(try dsimp only at h ⊢)
    rw [if_neg hA'] at h ⊢;obtain ⟨k,e1,e2,e3,e4⟩:=inv.fa h;exact ⟨k,e1,Nat.lt_of_lt_of_le e2 h1.size,e3,hbx _ _ _ e4 e2 h1⟩
   ·(try dsimp only at h ⊢)
    rw [if_neg hB'] at h ⊢;obtain ⟨k,e1,e2,e3,e4⟩:=inv.fb h;exact ⟨k,e1,Nat.lt_of_lt_of_le e2 h1.size,e3,hbx _ _ _ e4 e2 h1⟩
   ·(try dsimp only at h k ⊢)
    rw [if_neg hA'] at h ⊢;rw [if_neg hB'] at k ⊢;exact inv.ne h k
  rcases hstep i o hi hiA hiB ho vals w1 hbw (fun j hj => inv.rel j (hlt j hj).1 (hlt j hj).2.1 (hlt j hj).2.2 (hneed j hj)) with ⟨hw,hk'⟩ | ⟨hw,hu⟩
  ·exact .inl ⟨hw,fun K hK => hk' K (fun v w' h1 h2 => hK v w' (hbw.trans (h1.mono hbw.size)) (hfin v w' h1 h2))⟩
  ·exact .inr ⟨hw,hfin undef w1 ⟨rfl,rfl,rfl,Nat.le_refl _,fun _ _ => rfl⟩ hu⟩
 ·obtain ⟨k,a1,a2,a3,a4⟩:=inv.fa (hall A hA)
  obtain ⟨m,b1,b2,b3,b4⟩:=inv.fb (hall B hB);exact hend k m vals w1 hbw a1 b1 a2 b2 (fun e => inv.ne (hall A hA) (hall B hB) (by rw [a3,b3,e])) a3 b3 a4 b4 (fun i hi hiA hiB => inv.rel i hi hiA hiB (hall i hi))
def AllD (P:Program) (ops:Array Oper) (Q:Exit→Act→World→Prop) (n A B:Nat) (R:Nat→Value→World→Prop) (a0:Act) (w0:World):Nat→List Oper→Prop
 | _,[] => True
 | i,o :: l => (i≠A→i≠B→StepQ P ops Q n R a0 w0 i o)∧AllD P ops Q n A B R a0 w0 (i + 1) l
theorem AllD.step {n A B:Nat} {R:Nat→Value→World→Prop} {a0:Act} {w0:World} {i:Nat} {o:Oper} {l:List Oper} (h:StepQ P ops Q n R a0 w0 i o) (k:AllD P ops Q n A B R a0 w0 (i + 1) l):AllD P ops Q n A B R a0 w0 i (o :: l):=⟨fun _ _ => h,k⟩
theorem AllD.skipA {n B:Nat} {R:Nat→Value→World→Prop} {a0:Act} {w0:World} {i:Nat} {o:Oper} {l:List Oper} (k:AllD P ops Q n i B R a0 w0 (i + 1) l):AllD P ops Q n i B R a0 w0 i (o :: l):=⟨fun h => absurd rfl h,k⟩
theorem AllD.skipB {n A:Nat} {R:Nat→Value→World→Prop} {a0:Act} {w0:World} {i:Nat} {o:Oper} {l:List Oper} (k:AllD P ops Q n A i R a0 w0 (i + 1) l):AllD P ops Q n A i R a0 w0 i (o :: l):=⟨fun _ h => absurd rfl h,k⟩
theorem AllD.get {n A B:Nat} {R:Nat→Value→World→Prop} {a0:Act} {w0:World}:∀ (l:List Oper) (k:Nat),AllD P ops Q n A B R a0 w0 k l→∀ i o,l[i]? = some o→k + i≠A→k + i≠B→StepQ P ops Q n R a0 w0 (k + i) o
 | [],_,_,i,o,ho,_,_ => by cases ho
 | x :: l,k,h,0,o,ho,hA,hB => by cases ho;exact h.1 hA hB
 | x :: l,k,h,i + 1,o,ho,hA,hB => by
  have:=AllD.get l (k + 1) h.2 i o (by simpa using ho) (by omega) (by omega);rwa [show k + 1 + i = k + (i + 1) by omega] at this
theorem AllD.all {n A B:Nat} {R:Nat→Value→World→Prop} {a0:Act} {w0:World} (hk:relB ops n = true) (hb:((List.range n).all fun i => match dstR ops i with | some t => decide (t < a0.tmps.size) | none => true) = true) (h:AllD P ops Q n A B R a0 w0 0 (ops.toList.take n)):∀ i o,i < n→i≠A→i≠B→ops[i]? = some o→StepP P ops Q n R a0 w0 i o:=fun i o hi hA hB ho => by
 have:=AllD.get _ 0 h i o (by rw [List.getElem?_take,if_pos hi];simpa using ho) (by omega) (by omega);rw [Nat.zero_add] at this;exact this.stepP hk hb
end
theorem mod_eleven (w:World) (B:Nat) (v0 v1 v2 v3 v4 v5 v6 v7 v8 v9 v10:Value):Mod [B] w (((((((((((w.setCell ⟨B,0,none⟩ (v0)).setCell ⟨B,1,none⟩ (v1)).setCell ⟨B,2,none⟩ (v2)).setCell ⟨B,3,none⟩ (v3)).setCell ⟨B,4,none⟩ (v4)).setCell ⟨B,5,none⟩ (v5)).setCell ⟨B,6,none⟩ (v6)).setCell ⟨B,7,none⟩ (v7)).setCell ⟨B,8,none⟩ (v8)).setCell ⟨B,9,none⟩ (v9)).setCell ⟨B,10,none⟩ (v10)):=by
 have hB:∀ o:Nat,(⟨B,o,none⟩:Addr).block∈[B]:=fun _ => List.mem_singleton.2 rfl;exact ((((((((((((Mod.refl [B] w).setCell (hB 0) v0).setCell (hB 1) v1).setCell (hB 2) v2).setCell (hB 3) v3).setCell (hB 4) v4).setCell (hB 5) v5).setCell (hB 6) v6).setCell (hB 7) v7).setCell (hB 8) v8).setCell (hB 9) v9).setCell (hB 10) v10)
theorem CBox.eleven {w:World} {B:Nat} {t:TypeId} {a0 a1 a2 a3 a4 a5 a6 a7 a8 a9 a10:Value} (h:CBox w B t #[a0,a1,a2,a3,a4,a5,a6,a7,a8,a9,a10]) (v0 v1 v2 v3 v4 v5 v6 v7 v8 v9 v10:Value) :
  CBox (((((((((((w.setCell ⟨B,0,none⟩ (v0)).setCell ⟨B,1,none⟩ (v1)).setCell ⟨B,2,none⟩ (v2)).setCell ⟨B,3,none⟩ (v3)).setCell ⟨B,4,none⟩ (v4)).setCell ⟨B,5,none⟩ (v5)).setCell ⟨B,6,none⟩ (v6)).setCell ⟨B,7,none⟩ (v7)).setCell ⟨B,8,none⟩ (v8)).setCell ⟨B,9,none⟩ (v9)).setCell ⟨B,10,none⟩ (v10)) B t #[v0,v1,v2,v3,v4,v5,v6,v7,v8,v9,v10]∧Mod [B] w (((((((((((w.setCell ⟨B,0,none⟩ (v0)).setCell ⟨B,1,none⟩ (v1)).setCell ⟨B,2,none⟩ (v2)).setCell ⟨B,3,none⟩ (v3)).setCell ⟨B,4,none⟩ (v4)).setCell ⟨B,5,none⟩ (v5)).setCell ⟨B,6,none⟩ (v6)).setCell ⟨B,7,none⟩ (v7)).setCell ⟨B,8,none⟩ (v8)).setCell ⟨B,9,none⟩ (v9)).setCell ⟨B,10,none⟩ (v10)):=by
 have h0:CBox _ B t #[v0,a1,a2,a3,a4,a5,a6,a7,a8,a9,a10]:=h.set 0 v0;have h1:CBox _ B t #[v0,v1,a2,a3,a4,a5,a6,a7,a8,a9,a10]:=h0.set 1 v1;have h2:CBox _ B t #[v0,v1,v2,a3,a4,a5,a6,a7,a8,a9,a10]:=h1.set 2 v2;have h3:CBox _ B t #[v0,v1,v2,v3,a4,a5,a6,a7,a8,a9,a10]:=h2.set 3 v3;have h4:CBox _ B t #[v0,v1,v2,v3,v4,a5,a6,a7,a8,a9,a10]:=h3.set 4 v4;have h5:CBox _ B t #[v0,v1,v2,v3,v4,v5,a6,a7,a8,a9,a10]:=h4.set 5 v5;have h6:CBox _ B t #[v0,v1,v2,v3,v4,v5,v6,a7,a8,a9,a10]:=h5.set 6 v6
 have h7:CBox _ B t #[v0,v1,v2,v3,v4,v5,v6,v7,a8,a9,a10]:=h6.set 7 v7;have h8:CBox _ B t #[v0,v1,v2,v3,v4,v5,v6,v7,v8,a9,a10]:=h7.set 8 v8;have h9:CBox _ B t #[v0,v1,v2,v3,v4,v5,v6,v7,v8,v9,a10]:=h8.set 9 v9;exact ⟨h9.set 10 v10,mod_eleven w B v0 v1 v2 v3 v4 v5 v6 v7 v8 v9 v10⟩
theorem CBox.putD {w:World} {B:Nat} {t:TypeId} {a0 a1 a2 a3 a4 a5 a6 a7 a8 a9 a10:Value} (h:CBox w B t #[a0,a1,a2,a3,a4,a5,a6,a7,a8,a9,a10]) (d:ODecl) (a:Option Addr) (c:Nat) (s:Option Addr) (k:Nat):type_of% (CBox.eleven h (.int .i64 d.id) (.int .i64 d.kind) (.bool d.pub) (.slice a d.names.length c) (.bool d.doubt) (.int .i64 d.body.kind) (.string d.body.name) (.string d.body.more) (.int .i64 d.body.num) (.int .i64 d.body.den) (.slice s d.body.subs.length k)):=CBox.eleven h (.int .i64 d.id) (.int .i64 d.kind) (.bool d.pub) (.slice a d.names.length c) (.bool d.doubt) (.int .i64 d.body.kind) (.string d.body.name) (.string d.body.more) (.int .i64 d.body.num) (.int .i64 d.body.den) (.slice s d.body.subs.length k)
theorem CBox.putZ {w:World} {B:Nat} {t:TypeId} {a0 a1 a2 a3 a4 a5 a6 a7 a8 a9 a10:Value} (h:CBox w B t #[a0,a1,a2,a3,a4,a5,a6,a7,a8,a9,a10]):type_of% (CBox.eleven h (.int .i64 0) (.int .i64 0) (.bool false) (.slice none 0 0) (.bool false) (.int .i64 0) (.string ⟨#[]⟩) (.string ⟨#[]⟩) (.int .i64 0) (.int .i64 0) (.slice none 0 0)):=CBox.eleven h (.int .i64 0) (.int .i64 0) (.bool false) (.slice none 0 0) (.bool false) (.int .i64 0) (.string ⟨#[]⟩) (.string ⟨#[]⟩) (.int .i64 0) (.int .i64 0) (.slice none 0 0)
section
variable {o:Oper} {fa:Act} {w:World} {K:Act→World→Prop} {Q:Exit→Act→World→Prop}
theorem opd_frame {P:Program} {ops:Array Oper} {Q:Exit→Act→World→Prop} {l:List Oper} {a fa:Act} {w:World} (h:a = fa) (k:wpList P ops Q l fa w):wpList P ops Q l a w:=h ▸ k
theorem opd_move {x:Operand} (ho:o.op = .move x) (h:K (fa.put o.dst (fa.eval x)) w):Oper.wp Tryz.prog o fa w K Q:=by
 unfold Oper.wp execOp;simp only [ho]
 exact h
theorem opd_call {g:Operand} {f:FuncId} {args:Array Operand} {ats:Array TypeId} {vs:Array Value} (ho:o.op = .call { callee:=.value g,args:=args,argTypes:=ats }) (hg:fa.eval g = .func (.func f) #[] #[]) (hv:args.map fa.eval = vs) (he:Enters Tryz.prog f)
  (h:Calls Tryz.prog f vs w fun e w' => ∃ v,e = .returned v∧K (fa.put o.dst v) w'):Oper.wp Tryz.prog o fa w K Q:=by
 have hx:(execOp fa.eval o).run Tryz.prog w = .ok (.enter f vs) w:=by
  unfold execOp;simp only [ho,resolve,hg,hv]
  simp [invoke,go_sem]
  exact he vs w
 unfold Oper.wp;rw [hx];refine h.mono ?_;rintro e w' ⟨v,rfl,hk⟩;exact hk
theorem opd_first {x:Operand} {b q n c:Nat} (ho:o.op = .indexAddr 33 x (.const (.int .i64 0))) (hx:fa.eval x = .slice (some ⟨b,q,none⟩) n c) (hn:0 < n) (h:K (fa.put o.dst (.pointer (some ⟨b,q,none⟩))) w):Oper.wp Tryz.prog o fa w K Q:=by
 have hi:(0:Int) < (n:Int):=by omega
 unfold Oper.wp execOp;simp only [ho,hx]
 go_simp
 exact h
theorem opd_allocD (ho:o.op = .alloc 69) (h:K (fa.put o.dst (.pointer (some ⟨w.heap.size,0,none⟩))) (w.alloc (.cells #[.int .i64 0,.int .i64 0,.bool false,.slice none 0 0,.bool false,.int .i64 0,.string ⟨#[]⟩,.string ⟨#[]⟩,.int .i64 0,.int .i64 0,.slice none 0 0] 69))):Oper.wp Tryz.prog o fa w K Q:=by
 unfold Oper.wp execOp;simp only [ho]
 go_simp
 exact h
theorem opd_loadD {x:Operand} {b q:Nat} {a0 a1 a2 a3 a4 a5 a6 a7 a8 a9 a10:Value} (ho:o.op = .load 69 x) (hx:fa.eval x = .pointer (some ⟨b,q,none⟩))
  (hc:∀ (j:Nat) (u:Value),[a0,a1,a2,a3,a4,a5,a6,a7,a8,a9,a10][j]? = some u→w.cell? ⟨b,q + j,none⟩ = some u) (h:K (fa.put o.dst (.agg #[a0,a1,a2,a3,a4,a5,a6,a7,a8,a9,a10])) w):Oper.wp Tryz.prog o fa w K Q:=by
 have h0:=hc 0 _ rfl;rw [Nat.add_zero] at h0;have h1:=hc 1 _ rfl;have h2:=hc 2 _ rfl;have h3:=hc 3 _ rfl;have h4:=hc 4 _ rfl;have h5:=hc 5 _ rfl;have h6:=hc 6 _ rfl;have h7:=hc 7 _ rfl;have h8:=hc 8 _ rfl;have h9:=hc 9 _ rfl;have h10:=hc 10 _ rfl;unfold Oper.wp execOp;simp only [ho,hx]
 go_simp
 exact h
set_option maxHeartbeats 1000000 in
theorem opd_storeD {x y:Operand} {k:Nat} {z0 z1 z2 z3 z4 z5 z6 z7 z8 z9 z10:Value} {i0 i1 i5 i8 i9:Int} {p2 p4:Bool} {a3 a10:Option Addr} {n3 c3 n10 c10:Nat} {s6 s7:ByteArray} (ho:o.op = .store 69 x y) (hx:fa.eval x = .pointer (some ⟨k,0,none⟩)) (hy:fa.eval y = .agg #[.int .i64 i0,.int .i64 i1,.bool p2,.slice a3 n3 c3,.bool p4,.int .i64 i5,.string s6,.string s7,.int .i64 i8,.int .i64 i9,.slice a10 n10 c10])
  (hb:CBox w k 69 #[z0,z1,z2,z3,z4,z5,z6,z7,z8,z9,z10]) (h:∀ v w',Mod [k] w w'→CBox w' k 69 #[.int .i64 i0,.int .i64 i1,.bool p2,.slice a3 n3 c3,.bool p4,.int .i64 i5,.string s6,.string s7,.int .i64 i8,.int .i64 i9,.slice a10 n10 c10]→K (fa.put o.dst v) w'):Oper.wp Tryz.prog o fa w K Q:=by
 obtain ⟨hc,hm⟩:=CBox.eleven hb (.int .i64 i0) (.int .i64 i1) (.bool p2) (.slice a3 n3 c3) (.bool p4) (.int .i64 i5) (.string s6) (.string s7) (.int .i64 i8) (.int .i64 i9) (.slice a10 n10 c10);have h':=fun v => h v _ hm hc;clear hm hc h;have h0:=hb.cell (i:=0) (v:=z0) rfl;have f0:=hb.frozen 0;have h1:=hb.cell (i:=1) (v:=z1) rfl;have f1:=hb.frozen 1;have h2:=hb.cell (i:=2) (v:=z2) rfl;have f2:=hb.frozen 2;have h3:=hb.cell (i:=3) (v:=z3) rfl;have f3:=hb.frozen 3;have h4:=hb.cell (i:=4) (v:=z4) rfl;have f4:=hb.frozen 4
 have h5:=hb.cell (i:=5) (v:=z5) rfl;have f5:=hb.frozen 5;have h6:=hb.cell (i:=6) (v:=z6) rfl;have f6:=hb.frozen 6;have h7:=hb.cell (i:=7) (v:=z7) rfl;have f7:=hb.frozen 7;have h8:=hb.cell (i:=8) (v:=z8) rfl;have f8:=hb.frozen 8;have h9:=hb.cell (i:=9) (v:=z9) rfl;have f9:=hb.frozen 9;have h10:=hb.cell (i:=10) (v:=z10) rfl;have f10:=hb.frozen 10;have hl:=hb.lt;unfold Oper.wp execOp;simp only [ho,hx,hy]
 go_simp
 exact h' _
theorem opd_cons {P:Program} {ops:Array Oper} {Q:Exit→Act→World→Prop} {l:List Oper} {o:Oper} {a:Act} {w:World} (hg:o.guard = none) (h:Oper.wp P o a w (fun a' w' => wpList P ops Q l a' w') Q):wpList P ops Q (o :: l) a w:=by
 rw [wpList,if_pos (wanted_none hg)];exact .inl h
end
end Go.Proofs.YtdpnfkjafhbndaaGreatDoor

