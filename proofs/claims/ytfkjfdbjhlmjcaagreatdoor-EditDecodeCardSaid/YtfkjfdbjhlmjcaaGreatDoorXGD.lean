/- A drawn region in whose head two blocks are allocated, whenever: -/
import Derived.Test.YtfkjfdbjhlmjcaaGreatDoorXW1
set_option maxRecDepth 100000
set_option maxHeartbeats 16000000
namespace Go.Proofs.YtfkjfdbjhlmjcaaGreatDoor
open Go.RowKit Go.Shelf
attribute [local go_sem] Oper.semAt_some
section
variable {P:Program} {ops:Array Oper} {Q:Exit→Act→World→Prop}
structure ID (n A B base:Nat) (bx:Nat→World→Prop) (R:Nat→Value→World→Prop) (l:Nat→Bool) (vals:Nat→Value) (w:World):Prop where
  rel:∀i,i<n→i≠A→i≠B→l i=true→R i (vals i) w
  fa:l A=true→∃k,base≤k∧k<w.heap.size∧vals A=.pointer (some ⟨k,0,none⟩)∧bx k w
  fb:l B=true→∃k,base≤k∧k<w.heap.size∧vals B=.pointer (some ⟨k,0,none⟩)∧bx k w
  ne:l A=true→l B=true→vals A≠vals B
theorem zSr {id:Nat} {a0:Act} {w:World} (n A B:Nat) (bx:Nat→World→Prop) (R:Nat→Value→World→Prop) (hA:A<n) (hB:B<n) (hAB:A≠B) (hm:P.follows .mixedOrders=true) (hk:relB ops n=true) (hQ:∀c a w,¬Q (.panic c) a w)
  (hb:((List.range n).all fun i=>match dstR ops i with|some t=>decide (t<a0.tmps.size)|none=>true)=true)
  (hR:∀i v w w',R i v w→Bw w w'→R i v w') (hbx:∀k w w',bx k w→k<w.heap.size→Bw w w'→bx k w')
  (halloc:∀i o,(i=A∨i=B)→ops[i]?=some o→o.guard=none∧∀a w,∀K:Act→World→Prop,Shut (∀w',Bw w w'→w.heap.size<w'.heap.size→bx w.heap.size w'→K (a.put o.dst (.pointer (some ⟨w.heap.size,0,none⟩))) w')→Oper.wp P o a w K Q)
  (hneedAB:((List.range n).all fun i=>match ops[i]? with|some o=>!(needsR o).contains A && !(needsR o).contains B|none=>true)=true)
  (hstep:∀i o,i<n→i≠A→i≠B→ops[i]?=some o→StepP P ops Q n R a0 w i o)
  (hend:∀k m vals w',Bw w w'→w.heap.size≤k→w.heap.size≤m→k<w'.heap.size→m<w'.heap.size→k≠m→vals A=.pointer (some ⟨k,0,none⟩)→vals B=.pointer (some ⟨m,0,none⟩)→bx k w'→bx m w'→(∀i,i<n→i≠A→i≠B→R i (vals i) w')→wpList P ops Q (ops.toList.drop n) (fullR ops a0 vals n) w') :
  (Code.region id ops true).wp P Q a0 w:=by
 have hn:n<ops.size:=by
  unfold relB at hk;simp only [Bool.and_eq_true,decide_eq_true_eq] at hk
  exact hk.1.1.1.1.2
 refine zMk n (ID n A B w.heap.size bx R) hm hk hQ hb ?_ (fun i o hi ho l vals w1 hbw hl hneed inv=>?_) (fun l vals w1 hbw hall inv=>?_)
 ·have hz:∀i,i<n→decide (n≤i∧ops.size≤i)=false:=fun i hi=>decide_eq_false (by omega)
  exact ⟨fun i hi _ _ h=>(by rw [hz i hi] at h;cases h),fun h=>(by rw [hz A hA] at h;cases h),fun h=>(by rw [hz B hB] at h;cases h),fun h _=>(by rw [hz A hA] at h;cases h)⟩
 ·have hlt:∀j,j∈needsR o→j<n∧j≠A∧j≠B:=fun j hj=>by
   refine ⟨?_,?_⟩
   ·unfold relB at hk
    simp only [Bool.and_eq_true,decide_eq_true_eq] at hk
    have:=(zCq (zEs hk.1.2 hi ho)).2.2.1 j hj;omega
   ·have:=List.all_eq_true.1 hneedAB i (List.mem_range.2 hi)
    rw [ho] at this;simp only [Bool.and_eq_true,Bool.not_eq_true',List.contains_eq_mem,decide_eq_false_iff_not] at this
    exact ⟨fun e=>this.1 (e▸hj),fun e=>this.2 (e▸hj)⟩
  by_cases hiA:i=A
  ·subst hiA
   obtain ⟨hg,hal⟩:=halloc i o (.inl rfl) ho;refine .inl ⟨zGm hg,fun K hK=>hal _ w1 K (fun w' h1 h2 h3=>hK _ w' (hbw.trans (h1.mono hbw.size)) ⟨fun j hj hjA hjB hlj=>?_,fun _=>?_,fun h=>?_,fun _ h=>?_⟩)⟩
   ·rw [if_neg hjA] at hlj ⊢
    exact hR _ _ _ _ (inv.rel j hj hjA hjB hlj) h1
   ·exact ⟨w1.heap.size,hbw.size,h2,if_pos rfl,h3⟩
   ·rw [if_neg (fun e=>hAB e.symm)] at h ⊢
    obtain ⟨k,e1,e2,e3,e4⟩:=inv.fb h;exact ⟨k,e1,Nat.lt_of_lt_of_le e2 h1.size,e3,hbx _ _ _ e4 e2 h1⟩
   ·rw [if_pos rfl,if_neg (fun e=>hAB e.symm)]
    rw [if_neg (fun e=>hAB e.symm)] at h;obtain ⟨k,e1,e2,e3,e4⟩:=inv.fb h;rw [e3];intro e
    injection e with e
    injection e with e
    injection e with e
    omega
  by_cases hiB:i=B
  ·subst hiB
   obtain ⟨hg,hal⟩:=halloc i o (.inr rfl) ho;refine .inl ⟨zGm hg,fun K hK=>hal _ w1 K (fun w' h1 h2 h3=>hK _ w' (hbw.trans (h1.mono hbw.size)) ⟨fun j hj hjA hjB hlj=>?_,fun h=>?_,fun _=>?_,fun h _=>?_⟩)⟩
   ·rw [if_neg hjB] at hlj ⊢
    exact hR _ _ _ _ (inv.rel j hj hjA hjB hlj) h1
   ·rw [if_neg hAB] at h ⊢
    obtain ⟨k,e1,e2,e3,e4⟩:=inv.fa h;exact ⟨k,e1,Nat.lt_of_lt_of_le e2 h1.size,e3,hbx _ _ _ e4 e2 h1⟩
   ·exact ⟨w1.heap.size,hbw.size,h2,if_pos rfl,h3⟩
   ·rw [if_pos rfl,if_neg hAB]
    rw [if_neg hAB] at h;obtain ⟨k,e1,e2,e3,e4⟩:=inv.fa h;rw [e3];intro e
    injection e with e
    injection e with e
    injection e with e
    omega
  have hA':¬A=i:=fun e=>hiA e.symm;have hB':¬B=i:=fun e=>hiB e.symm
  have hfin:∀v w',Bw w1 w'→R i v w'→ID n A B w.heap.size bx R (fun j=>if j=i then true else l j) (fun j=>if j=i then v else vals j) w':=fun v w' h1 h2=>by
   refine ⟨fun j hj hjA hjB hlj=>?_,fun h=>?_,fun h=>?_,fun h k=>?_⟩
   ·(try dsimp only at hlj ⊢)
    by_cases hji:j=i
    ·subst hji;rw [if_pos rfl];exact h2
    ·rw [if_neg hji] at hlj ⊢
     exact hR _ _ _ _ (inv.rel j hj hjA hjB hlj) h1
   ·(try dsimp only at h ⊢)
    rw [if_neg hA'] at h ⊢;obtain ⟨k,e1,e2,e3,e4⟩:=inv.fa h;exact ⟨k,e1,Nat.lt_of_lt_of_le e2 h1.size,e3,hbx _ _ _ e4 e2 h1⟩
   ·(try dsimp only at h ⊢)
    rw [if_neg hB'] at h ⊢;obtain ⟨k,e1,e2,e3,e4⟩:=inv.fb h;exact ⟨k,e1,Nat.lt_of_lt_of_le e2 h1.size,e3,hbx _ _ _ e4 e2 h1⟩
   ·(try dsimp only at h k ⊢)
    rw [if_neg hA'] at h ⊢;rw [if_neg hB'] at k ⊢;exact inv.ne h k
  rcases hstep i o hi hiA hiB ho vals w1 hbw (fun j hj=>inv.rel j (hlt j hj).1 (hlt j hj).2.1 (hlt j hj).2.2 (hneed j hj)) with ⟨hw,hk'⟩|⟨hw,hu⟩
  ·exact .inl ⟨hw,fun K hK=>hk' K (fun v w' h1 h2=>hK v w' (hbw.trans (h1.mono hbw.size)) (hfin v w' h1 h2))⟩
  ·exact .inr ⟨hw,hfin undef w1 ⟨rfl,rfl,rfl,Nat.le_refl _,fun _ _=>rfl⟩ hu⟩
 ·obtain ⟨k,a1,a2,a3,a4⟩:=inv.fa (hall A hA)
  obtain ⟨m,b1,b2,b3,b4⟩:=inv.fb (hall B hB);exact hend k m vals w1 hbw a1 b1 a2 b2 (fun e=>inv.ne (hall A hA) (hall B hB) (by rw [a3,b3,e])) a3 b3 a4 b4 (fun i hi hiA hiB=>inv.rel i hi hiA hiB (hall i hi))
def AllD (P:Program) (ops:Array Oper) (Q:Exit→Act→World→Prop) (n A B:Nat) (R:Nat→Value→World→Prop) (a0:Act) (w0:World):Nat→List Oper→Prop
 | _,[]=>True
 | i,o::l=>(i≠A→i≠B→StepQ P ops Q n R a0 w0 i o)∧AllD P ops Q n A B R a0 w0 (i+1) l
theorem AllD.step {n A B:Nat} {R:Nat→Value→World→Prop} {a0:Act} {w0:World} {i:Nat} {o:Oper} {l:List Oper} (h:StepQ P ops Q n R a0 w0 i o) (k:AllD P ops Q n A B R a0 w0 (i+1) l):AllD P ops Q n A B R a0 w0 i (o::l):=⟨fun _ _=>h,k⟩
theorem AllD.skipA {n B:Nat} {R:Nat→Value→World→Prop} {a0:Act} {w0:World} {i:Nat} {o:Oper} {l:List Oper} (k:AllD P ops Q n i B R a0 w0 (i+1) l):AllD P ops Q n i B R a0 w0 i (o::l):=⟨fun h=>absurd rfl h,k⟩
theorem AllD.skipB {n A:Nat} {R:Nat→Value→World→Prop} {a0:Act} {w0:World} {i:Nat} {o:Oper} {l:List Oper} (k:AllD P ops Q n A i R a0 w0 (i+1) l):AllD P ops Q n A i R a0 w0 i (o::l):=⟨fun _ h=>absurd rfl h,k⟩
theorem AllD.get {n A B:Nat} {R:Nat→Value→World→Prop} {a0:Act} {w0:World}:∀(l:List Oper) (k:Nat),AllD P ops Q n A B R a0 w0 k l→∀i o,l[i]?=some o→k+i≠A→k+i≠B→StepQ P ops Q n R a0 w0 (k+i) o
 | [],_,_,i,o,ho,_,_=>by cases ho
 | x::l,k,h,0,o,ho,hA,hB=>by cases ho;exact h.1 hA hB
 | x::l,k,h,i+1,o,ho,hA,hB=>by
  have:=AllD.get l (k+1) h.2 i o (by simpa using ho) (by omega) (by omega);rwa [show k+1+i=k+(i+1) by omega] at this
theorem AllD.all {n A B:Nat} {R:Nat→Value→World→Prop} {a0:Act} {w0:World} (hk:relB ops n=true) (hb:((List.range n).all fun i=>match dstR ops i with|some t=>decide (t<a0.tmps.size)|none=>true)=true) (h:AllD P ops Q n A B R a0 w0 0 (ops.toList.take n)):∀i o,i<n→i≠A→i≠B→ops[i]?=some o→StepP P ops Q n R a0 w0 i o:=fun i o hi hA hB ho=>by
 have:=AllD.get _ 0 h i o (by rw [List.getElem?_take,if_pos hi];simpa using ho) (by omega) (by omega);rw [Nat.zero_add] at this;exact this.stepP hk hb
end
theorem zWg (w:World) (B:Nat) (v0 v1 v2 v3 v4 v5 v6 v7 v8 v9 v10:Value):Mod [B] w (((((((((((w.setCell ⟨B,0,none⟩ (v0)).setCell ⟨B,1,none⟩ (v1)).setCell ⟨B,2,none⟩ (v2)).setCell ⟨B,3,none⟩ (v3)).setCell ⟨B,4,none⟩ (v4)).setCell ⟨B,5,none⟩ (v5)).setCell ⟨B,6,none⟩ (v6)).setCell ⟨B,7,none⟩ (v7)).setCell ⟨B,8,none⟩ (v8)).setCell ⟨B,9,none⟩ (v9)).setCell ⟨B,10,none⟩ (v10)):=by
 have hB:∀o:Nat,(⟨B,o,none⟩:Addr).block∈[B]:=fun _=>List.mem_singleton.2 rfl;exact ((((((((((((Mod.refl [B] w).setCell (hB 0) v0).setCell (hB 1) v1).setCell (hB 2) v2).setCell (hB 3) v3).setCell (hB 4) v4).setCell (hB 5) v5).setCell (hB 6) v6).setCell (hB 7) v7).setCell (hB 8) v8).setCell (hB 9) v9).setCell (hB 10) v10)
theorem CBox.eleven {w:World} {B:Nat} {t:TypeId} {a0 a1 a2 a3 a4 a5 a6 a7 a8 a9 a10:Value} (h:CBox w B t #[a0,a1,a2,a3,a4,a5,a6,a7,a8,a9,a10]) (v0 v1 v2 v3 v4 v5 v6 v7 v8 v9 v10:Value) :
  CBox (((((((((((w.setCell ⟨B,0,none⟩ (v0)).setCell ⟨B,1,none⟩ (v1)).setCell ⟨B,2,none⟩ (v2)).setCell ⟨B,3,none⟩ (v3)).setCell ⟨B,4,none⟩ (v4)).setCell ⟨B,5,none⟩ (v5)).setCell ⟨B,6,none⟩ (v6)).setCell ⟨B,7,none⟩ (v7)).setCell ⟨B,8,none⟩ (v8)).setCell ⟨B,9,none⟩ (v9)).setCell ⟨B,10,none⟩ (v10)) B t #[v0,v1,v2,v3,v4,v5,v6,v7,v8,v9,v10]∧Mod [B] w (((((((((((w.setCell ⟨B,0,none⟩ (v0)).setCell ⟨B,1,none⟩ (v1)).setCell ⟨B,2,none⟩ (v2)).setCell ⟨B,3,none⟩ (v3)).setCell ⟨B,4,none⟩ (v4)).setCell ⟨B,5,none⟩ (v5)).setCell ⟨B,6,none⟩ (v6)).setCell ⟨B,7,none⟩ (v7)).setCell ⟨B,8,none⟩ (v8)).setCell ⟨B,9,none⟩ (v9)).setCell ⟨B,10,none⟩ (v10)):=by
 have h0:CBox _ B t #[v0,a1,a2,a3,a4,a5,a6,a7,a8,a9,a10]:=h.set 0 v0;have h1:CBox _ B t #[v0,v1,a2,a3,a4,a5,a6,a7,a8,a9,a10]:=h0.set 1 v1;have h2:CBox _ B t #[v0,v1,v2,a3,a4,a5,a6,a7,a8,a9,a10]:=h1.set 2 v2;have h3:CBox _ B t #[v0,v1,v2,v3,a4,a5,a6,a7,a8,a9,a10]:=h2.set 3 v3;have h4:CBox _ B t #[v0,v1,v2,v3,v4,a5,a6,a7,a8,a9,a10]:=h3.set 4 v4;have h5:CBox _ B t #[v0,v1,v2,v3,v4,v5,a6,a7,a8,a9,a10]:=h4.set 5 v5;have h6:CBox _ B t #[v0,v1,v2,v3,v4,v5,v6,a7,a8,a9,a10]:=h5.set 6 v6
 have h7:CBox _ B t #[v0,v1,v2,v3,v4,v5,v6,v7,a8,a9,a10]:=h6.set 7 v7;have h8:CBox _ B t #[v0,v1,v2,v3,v4,v5,v6,v7,v8,a9,a10]:=h7.set 8 v8;have h9:CBox _ B t #[v0,v1,v2,v3,v4,v5,v6,v7,v8,v9,a10]:=h8.set 9 v9;exact ⟨h9.set 10 v10,zWg w B v0 v1 v2 v3 v4 v5 v6 v7 v8 v9 v10⟩
theorem CBox.putD {w:World} {B:Nat} {t:TypeId} {a0 a1 a2 a3 a4 a5 a6 a7 a8 a9 a10:Value} (h:CBox w B t #[a0,a1,a2,a3,a4,a5,a6,a7,a8,a9,a10]) (d:ODecl) (a:Option Addr) (c:Nat) (s:Option Addr) (k:Nat):type_of% (CBox.eleven h (.int .i64 d.id) (.int .i64 d.kind) (.bool d.pub) (.slice a d.names.length c) (.bool d.doubt) (.int .i64 d.body.kind) (.string d.body.name) (.string d.body.more) (.int .i64 d.body.num) (.int .i64 d.body.den) (.slice s d.body.subs.length k)):=CBox.eleven h (.int .i64 d.id) (.int .i64 d.kind) (.bool d.pub) (.slice a d.names.length c) (.bool d.doubt) (.int .i64 d.body.kind) (.string d.body.name) (.string d.body.more) (.int .i64 d.body.num) (.int .i64 d.body.den) (.slice s d.body.subs.length k)
theorem CBox.putZ {w:World} {B:Nat} {t:TypeId} {a0 a1 a2 a3 a4 a5 a6 a7 a8 a9 a10:Value} (h:CBox w B t #[a0,a1,a2,a3,a4,a5,a6,a7,a8,a9,a10]):type_of% (CBox.eleven h (.int .i64 0) (.int .i64 0) (.bool false) (.slice none 0 0) (.bool false) (.int .i64 0) (.string ⟨#[]⟩) (.string ⟨#[]⟩) (.int .i64 0) (.int .i64 0) (.slice none 0 0)):=CBox.eleven h (.int .i64 0) (.int .i64 0) (.bool false) (.slice none 0 0) (.bool false) (.int .i64 0) (.string ⟨#[]⟩) (.string ⟨#[]⟩) (.int .i64 0) (.int .i64 0) (.slice none 0 0)
section
variable {o:Oper} {fa:Act} {w:World} {K:Act→World→Prop} {Q:Exit→Act→World→Prop}
theorem zZp {P:Program} {ops:Array Oper} {Q:Exit→Act→World→Prop} {l:List Oper} {a fa:Act} {w:World} (h:a=fa) (k:wpList P ops Q l fa w):wpList P ops Q l a w:=h▸k
theorem zJh {x:Operand} (ho:o.op=.move x) (h:K (fa.put o.dst (fa.eval x)) w):Oper.wp Tryz.prog o fa w K Q:=by
 unfold Oper.wp execOp;simp only [ho]
 exact h
theorem zUb {g:Operand} {f:FuncId} {args:Array Operand} {ats:Array TypeId} {vs:Array Value} (ho:o.op=.call { callee:=.value g,args:=args,argTypes:=ats }) (hg:fa.eval g=.func (.func f) #[] #[]) (hv:args.map fa.eval=vs) (he:Enters Tryz.prog f)
  (h:Calls Tryz.prog f vs w fun e w'=>∃v,e=.returned v∧K (fa.put o.dst v) w'):Oper.wp Tryz.prog o fa w K Q:=by
 have hx:(execOp fa.eval o).run Tryz.prog w=.ok (.enter f vs) w:=by
  unfold execOp;simp only [ho,resolve,hg,hv]
  simp [invoke,go_sem]
  exact he vs w
 unfold Oper.wp;rw [hx];refine h.mono ?_;rintro e w' ⟨v,rfl,hk⟩;exact hk
theorem zQo {x:Operand} {b q n c:Nat} (ho:o.op=.indexAddr 37 x (.const (.int .i64 0))) (hx:fa.eval x=.slice (some ⟨b,q,none⟩) n c) (hn:0<n) (h:K (fa.put o.dst (.pointer (some ⟨b,q,none⟩))) w):Oper.wp Tryz.prog o fa w K Q:=by
 have hi:(0:Int)<(n:Int):=by omega
 unfold Oper.wp execOp;simp only [ho,hx]
 go_simp
 exact h
theorem zMv (ho:o.op=.alloc 62) (h:K (fa.put o.dst (.pointer (some ⟨w.heap.size,0,none⟩))) (w.alloc (.cells dZ 62))):Oper.wp Tryz.prog o fa w K Q:=by
 unfold Oper.wp execOp;simp only [ho]
 go_simp
 exact h
theorem zQp {x:Operand} {b q:Nat} {a0 a1 a2 a3 a4 a5 a6 a7 a8 a9 a10:Value} (ho:o.op=.load 62 x) (hx:fa.eval x=.pointer (some ⟨b,q,none⟩))
  (hc:∀(j:Nat) (u:Value),[a0,a1,a2,a3,a4,a5,a6,a7,a8,a9,a10][j]?=some u→w.cell? ⟨b,q+j,none⟩=some u) (h:K (fa.put o.dst (.agg #[a0,a1,a2,a3,a4,a5,a6,a7,a8,a9,a10])) w):Oper.wp Tryz.prog o fa w K Q:=by
 have h0:=hc 0 _ rfl;rw [Nat.add_zero] at h0;have h1:=hc 1 _ rfl;have h2:=hc 2 _ rfl;have h3:=hc 3 _ rfl;have h4:=hc 4 _ rfl;have h5:=hc 5 _ rfl;have h6:=hc 6 _ rfl;have h7:=hc 7 _ rfl;have h8:=hc 8 _ rfl;have h9:=hc 9 _ rfl;have h10:=hc 10 _ rfl;unfold Oper.wp execOp;simp only [ho,hx]
 go_simp
 exact h
theorem zMw {x y:Operand} {k:Nat} {z0 z1 z2 z3 z4 z5 z6 z7 z8 z9 z10:Value} {i0 i1 i5 i8 i9:Int} {p2 p4:Bool} {a3 a10:Option Addr} {n3 c3 n10 c10:Nat} {s6 s7:ByteArray} (ho:o.op=.store 62 x y) (hx:fa.eval x=.pointer (some ⟨k,0,none⟩)) (hy:fa.eval y=.agg #[.int .i64 i0,.int .i64 i1,.bool p2,.slice a3 n3 c3,.bool p4,.int .i64 i5,.string s6,.string s7,.int .i64 i8,.int .i64 i9,.slice a10 n10 c10])
  (hb:CBox w k 62 #[z0,z1,z2,z3,z4,z5,z6,z7,z8,z9,z10]) (h:∀v w',Mod [k] w w'→CBox w' k 62 #[.int .i64 i0,.int .i64 i1,.bool p2,.slice a3 n3 c3,.bool p4,.int .i64 i5,.string s6,.string s7,.int .i64 i8,.int .i64 i9,.slice a10 n10 c10]→K (fa.put o.dst v) w'):Oper.wp Tryz.prog o fa w K Q:=by
 obtain ⟨hc,hm⟩:=CBox.eleven hb (.int .i64 i0) (.int .i64 i1) (.bool p2) (.slice a3 n3 c3) (.bool p4) (.int .i64 i5) (.string s6) (.string s7) (.int .i64 i8) (.int .i64 i9) (.slice a10 n10 c10);have h':=fun v=>h v _ hm hc;clear hm hc h;obtain ⟨h0,h1,h2,h3,h4,h5,h6,h7,h8,h9,h10,hl⟩:=zAz hb;obtain ⟨f0,f1,f2,f3,f4,f5,f6,f7,f8,f9,f10⟩:=zEl hb;unfold Oper.wp execOp;simp only [ho,hx,hy]
 go_simp
 exact h' _
theorem zUc {P:Program} {ops:Array Oper} {Q:Exit→Act→World→Prop} {l:List Oper} {o:Oper} {a:Act} {w:World} (hg:o.guard=none) (h:Oper.wp P o a w (fun a' w'=>wpList P ops Q l a' w') Q):wpList P ops Q (o::l) a w:=by
 rw [wpList,if_pos (zGm hg)];exact .inl h
end
def mtA (k:Int) (a:Option Addr):Option Addr:=if k=7 then a else none
def mC (k:Int) (c:Nat):Nat:=if k=7 then c else 0
def sA (k:Int) (a:Option Addr):Option Addr:=if k=8 then a else none
def sC (k:Int) (c:Nat):Nat:=if k=8 then c else 0
theorem zQq (k:Int) (hk:k=7∨k=8∨k=9) (d:ODecl) (an:Option Addr) (cn:Nat) (sa:Option Addr) (cs:Nat) (w:World) :
  Calls Tryz.prog 89 #[.int .i64 k,declV d an cn sa cs] w fun e w'=>e=.returned (declV (partD k d) (mtA k an) (mC k cn) (sA k sa) (sC k cs))∧Bw w w':=by
 have hA:∀o1 o2,Bw w ((w.alloc o1).alloc o2):=fun _ _=>zA (zAa _ _) (zAa _ _)
 rcases hk with rfl|rfl|rfl
 ·unfold declV
  go_enter Tryz.func89,Tryz.ntmps89
  go_wp2;go_returns;exact ⟨rfl,hA _ _⟩
 ·unfold declV
  go_enter Tryz.func89,Tryz.ntmps89
  go_wp2;go_returns;exact ⟨rfl,hA _ _⟩
 ·unfold declV
  go_enter Tryz.func89,Tryz.ntmps89
  go_wp2;go_returns;exact ⟨rfl,hA _ _⟩
theorem zZq {w:World} {X:List Nat} {k:Int} (hk:k=7∨k=8∨k=9) {d:ODecl} {an:Option Addr} {cn:Nat} {sa:Option Addr} {cs:Nat} (hn:Reads w X (strsT d.names) (.slice an d.names.length cn)) (hs:Reads w X (subsT d.body.subs) (.slice sa d.body.subs.length cs)) :
  ReadsL w X (declT (partD k d)) (declL (partD k d) (mtA k an) (mC k cn) (sA k sa) (sC k cs)):=by
 refine zBr ?_ ?_
 ·rcases hk with rfl|rfl|rfl
  ·exact hn
  ·exact Reads.nilRow _ _ _ _
  ·exact Reads.nilRow _ _ _ _
 ·rcases hk with rfl|rfl|rfl
  ·exact Reads.nilRow _ _ _ _
  ·exact hs
  ·exact Reads.nilRow _ _ _ _
theorem zUd {w:World} {k:Int} (hk:k=7∨k=8∨k=9) {d:ODecl} {an:Option Addr} {cn:Nat} {sa:Option Addr} {cs:Nat} (h:DeclIn w d an cn sa cs):DeclIn w (partD k d) (mtA k an) (mC k cn) (sA k sa) (sC k cs):=by
 rcases hk with rfl|rfl|rfl
 ·exact h.onlyNames _ _ _ _
 ·exact h.onlyBody _ _ _ _
 ·exact zGk _ _ _ _ _
theorem zOj {W:World} {Y:List Nat} {B:Nat} {d:ODecl} {an:Option Addr} {cn:Nat} {sa:Option Addr} {cs:Nat} (h:CBox W B 62 (declL d an cn sa cs).toArray) (hr:ReadsL W Y (declT d) (declL d an cn sa cs)) (hB:B∉Y):Reads W Y (declsT [d]) (.slice (some ⟨B,0,none⟩) 1 1):=by
  refine Reads.ofRow (l:=[d]) (yEb h) (fun _ b hb=>?_) (by rw [List.flatMap_cons,List.flatMap_nil,List.append_nil];exact hr)
  injection hb with hb
  subst hb
  exact hB
theorem yCf {W:World} {Y:List Nat} {k:Int} {p:ByteArray} {xs ys:List ODecl} {u v:Value} (h1:Reads W Y (declsT xs) u) (h2:Reads W Y (declsT ys) v):ReadsL W Y (editT ⟨k,p,noText,xs,ys⟩) [.int .i64 k,.string p,.string ⟨#[]⟩,u,v]:=
 ReadsL.cons (Reads.leaf' _ _ _) (ReadsL.cons (Reads.leaf' _ _ _) (ReadsL.cons (Reads.leaf' _ _ _) (ReadsL.cons h1 (ReadsL.cons h2 (ReadsL.nil _ _)))))
theorem zEg {w:World} {X:List Nat} {t:Tree} {v:Value} (h:Reads w X t v):∀{Y:List Nat},(∀k∈Y,w.heap.size≤k)→Reads w (Y++X) t v
 | [],_=>h
 | _::_,hX=>(zEg h fun q hq=>hX q (List.mem_cons_of_mem _ hq)).more (hX _ (List.mem_cons_self ..))
theorem yEj {p:ByteArray} {a:ODecl} {xs:List ODecl} {out:List OEdit}:out++declE p (a::xs) []=(out++[remD p a])++declE p xs []:=by rw [declE,List.append_assoc];rfl
theorem yEk {p:ByteArray} {b:ODecl} {bs:List ODecl} {out:List OEdit}:out++declE p [] (b::bs)=(out++[addD p b])++declE p [] bs:=by rw [declE,List.append_assoc];rfl
def kindsF (p:ByteArray) (a b:ODecl) (ks:List Int):List OEdit:=(ks.filter fun k=>!sameD (partD k a) (partD k b)).map (partE7 p a b)
theorem yCg {p:ByteArray} {a b:ODecl} {xs bs:List ODecl} {out:List OEdit} (h1:¬a.id<b.id) (h:¬b.id<a.id):out++declE p (a::xs) (b::bs)=(out++kindsF p a b [7,8,9])++declE p xs bs:=by rw [declE,if_neg h1,if_neg h,List.append_assoc];rfl
theorem zZr {p:ByteArray} {a b:ODecl} {i:Nat} {k:Int} (h:([7,8,9]:List Int)[i]?=some k):kindsF p a b (([7,8,9]:List Int).drop i)=if sameD (partD k a) (partD k b) then kindsF p a b (([7,8,9]:List Int).drop (i+1)) else partE7 p a b k::kindsF p a b (([7,8,9]:List Int).drop (i+1)):=by
 unfold kindsF;obtain ⟨hi,e⟩:=List.getElem?_eq_some_iff.1 h;rw [List.drop_eq_getElem_cons hi,e,List.filter_cons]
 cases sameD (partD k a) (partD k b)<;>rfl
theorem yCh {i:Nat} {k:Int} (h:([7,8,9]:List Int)[i]?=some k):k=7∨k=8∨k=9:=by
 have:=List.mem_of_getElem? h
 simpa using this
theorem zKs {k:Int} {d:ODecl} (hn:d.names.length≤1000000∧nodesN d.body≤1000000):(partD k d).names.length≤1000000∧nodesN (partD k d).body≤1000000:=by
 have hz:nodesN exZ≤1000000:=by decide
 unfold partD;split
 ·exact ⟨hn.1,hz⟩
 split
 ·exact ⟨Nat.zero_le _,hn.2⟩
 split
 ·exact ⟨Nat.zero_le _,hz⟩
 ·exact hn
def R6 (k:Int) (va pa da ma vb pb db mb:Value):Nat→Value→Prop
 | 0,v=>v=.int .i64 k
 | 1,v=>v=va
 | 2,v=>v=pa
 | 3,v=>v=da
 | 4,v=>v=ma
 | 5,v=>v=.int .i64 k
 | 6,v=>v=vb
 | 7,v=>v=pb
 | 8,v=>v=db
 | 9,v=>v=mb
 | _,_=>True
theorem zOk (p:ByteArray) (xs bs:List ODecl) (aa ab:Option Addr) (ca cb:Nat) (X:List Nat) (w:World) (hX:∀x∈X,x<w.heap.size) (ha:Reads w X (declsT xs) (.slice aa xs.length ca)) (hb:Reads w X (declsT bs) (.slice ab bs.length cb)) (hsi:xs.map ODecl.id=bs.map ODecl.id) (hna:xs.length≤40000) (hnb:bs.length≤40000)
  (hsa:∀x∈xs,x.names.length≤1000000∧nodesN x.body≤1000000) (hsb:∀x∈bs,x.names.length≤1000000∧nodesN x.body≤1000000) :
  Calls Tryz.prog 40 #[.string p,.slice aa xs.length ca,.slice ab bs.length cb] w fun r w'=>∃v,r=.returned v∧OwnT w' X w.heap.size 39 5 editT v (declE p xs bs)∧Bw w w':=by
 obtain ⟨i0,z,hi0,hz0,hzs,hz1,hz2⟩:=zBh zHf;obtain ⟨K,hK⟩:∃K,K=3 * (xs.length+bs.length):=⟨_,rfl⟩;have hKl:K≤240000:=by omega
 obtain ⟨n,hn⟩:∃n,xs.length=n:=⟨_,rfl⟩;obtain ⟨m,hm⟩:∃m,bs.length=m:=⟨_,rfl⟩;rw [hn] at ha hK ⊢;rw [hm] at hb hK ⊢;have HRX0:=lH ha;have HRB0:=lH hb;have HNX0:=lH hn;have HNB0:=lH hm;have HSA0:=lH hsa;have HSB0:=lH hsb;have HXX:=lH hX;have HSI0:=lH hsi;have HK:Hid (3 * (n+m)+([]:List OEdit).length≤K):=by show _≤_;simp;omega
 clear ha hb hn hm hna hnb hK hsa hsb hX hsi;have HE:Hid (declE p xs bs=([]:List OEdit)++declE p xs bs):=rfl;generalize hT:declE p xs bs=T at HE ⊢;rw [←hT] at HE;have HE2:Hid (T=([]:List OEdit)++declE p xs bs):=by show _=_;rw [←hT];rfl
 clear hT HE
 go_enter Tryz.func40,Tryz.ntmps40
 go_wp2
 go_loopw [1,2,7] (fun av bv ov wr=>∃(xs bs:List ODecl) (out:List OEdit) (aa:Option Addr) (n ca:Nat) (ab:Option Addr) (m cb:Nat),av=.slice aa n ca∧bv=.slice ab m cb∧Hid (T=out++declE p xs bs)∧Hid (OwnT wr X w.heap.size 39 5 editT ov out∧3 * (n+m)+out.length≤K)∧Hid (Reads w X (declsT xs) (.slice aa n ca))∧Hid (xs.length=n)∧Hid (Reads w X (declsT bs) (.slice ab m cb))∧Hid (bs.length=m)∧Hid (∀x∈xs,x.names.length≤1000000∧nodesN x.body≤1000000)∧Hid (∀x∈bs,x.names.length≤1000000∧nodesN x.body≤1000000)∧Hid (xs.map ODecl.id=bs.map ODecl.id)∧Bw w wr) (fun av bv _ _=>lenV av+lenV bv)
 case atStart=>exact ⟨xs,bs,[],aa,n,ca,ab,m,cb,rfl,rfl,HE2,⟨OwnT.nil _ _ _ _ _ _,HK.out⟩,HRX0,HNX0,HRB0,HNB0,HSA0,HSB0,HSI0,zAl _⟩
 case round=>
  clear HE2 HK HRX0 HNX0 HRB0 HNB0 HSA0 HSB0;obtain ⟨xs,bs,out,aa,n,ca,ab,m,cb,rfl,rfl,HI,HW,HRX,HNX,HRB,HNB,HSA,HSB,HSI,hb⟩:=hrel;have HB:=lH hb;have hnm:=HW.out.2;clear hb;obtain ⟨oa0,oc0,rfl,-,-⟩:=HW.out.1.val
  cases xs with
  | nil=>
   obtain rfl:n=0:=by have:=HNX.out;simpa using this.symm
   cases bs with
   | nil=>
    obtain rfl:m=0:=by have:=HNB.out;simpa using this.symm
    have HF:Hid (T=out):=by show _=_;rw [HI.out,declE];exact List.append_nil _
    have HO2:Hid (OwnT wr X w.heap.size 39 5 editT (.slice oa0 out.length oc0) T):=by show OwnT _ _ _ _ _ _ _ _;rw [HF.out];exact HW.out.1
    clear HW HI;go_wp2;go_ret;exact ⟨_,rfl,HO2.out,HB.out⟩
   | cons b bt=>
    have hbn:=HNB.out;have hb0:0<m:=by rw [←hbn];simp
    have hdb:decide ((0:Int)<(m:Int))=true:=decide_eq_true (by omega);have hzb:((m:Int)==0)=false:=by simp;omega
    have hib:(0:Int)<(m:Int):=by omega
    have hjb:(1:Int)≤(m:Int):=by omega
    obtain ⟨bb,ob,anb,cnb,sab,csb,eab,hlb,hcb,hrdb,hdib,hrnb,hrsb⟩:=zGp (l:=b::bt) (a:=ab) (c:=cb) (by have:=HRB.out;rwa [←hbn] at this) (d:=b) rfl;subst eab
    have hccb:m≤cb:=by have:=HRB.out;rw [←hbn] at this;obtain ⟨_,_,e,k,_⟩:=zCi this;injection e with e1 e2 e3;omega
    have hkb:(1:Int)≤(cb:Int):=by omega
    have HLB:=lH hlb;have HCB:=lH hcb;have HRDb:=lH hrdb;have HDIb:=lH hdib;have HRNb:=lH hrnb;have HRSb:=lH hrsb;have HSMb:=lH (HSB.out b (List.mem_cons_self ..));have HSBT:Hid (∀y∈bt,y.names.length≤1000000∧nodesN y.body≤1000000):=fun y hy=>HSB.out y (List.mem_cons_of_mem _ hy);have HYN:Hid (bt.length=m - 1):=by show _=_;rw [←hbn];simp
    clear hcb hrdb hdib hrnb hrsb hlb hbn;have HN:=lH (HI.out.trans yEk);clear HI
    cases HSI.out
  | cons a xt=>
   have han:=HNX.out;have ha0:0<n:=by rw [←han];simp
   have hda:decide ((0:Int)<(n:Int))=true:=decide_eq_true (by omega);have hza:((n:Int)==0)=false:=by simp;omega
   have hia:(0:Int)<(n:Int):=by omega
   have hja:(1:Int)≤(n:Int):=by omega
   obtain ⟨ba,oa,ana,cna,saa,csa,eaa,hla,hca,hrda,hdia,hrna,hrsa⟩:=zGp (l:=a::xt) (a:=aa) (c:=ca) (by have:=HRX.out;rwa [←han] at this) (d:=a) rfl;subst eaa
   have hcca:n≤ca:=by have:=HRX.out;rw [←han] at this;obtain ⟨_,_,e,k,_⟩:=zCi this;injection e with e1 e2 e3;omega
   have hka:(1:Int)≤(ca:Int):=by omega
   have HLA:=lH hla;have HCA:=lH hca;have HRDa:=lH hrda;have HDIa:=lH hdia;have HRNa:=lH hrna;have HRSa:=lH hrsa;have HSMa:=lH (HSA.out a (List.mem_cons_self ..));have HSAT:Hid (∀y∈xt,y.names.length≤1000000∧nodesN y.body≤1000000):=fun y hy=>HSA.out y (List.mem_cons_of_mem _ hy);have HXN:Hid (xt.length=n - 1):=by show _=_;rw [←han];simp
   clear hca hrda hdia hrna hrsa hla han
   cases bs with
   | nil=>
    obtain rfl:m=0:=by have:=HNB.out;simpa using this.symm
    have HN:=lH (HI.out.trans yEj);clear HI
    cases HSI.out
   | cons b bt=>
    have hbn:=HNB.out;have hb0:0<m:=by rw [←hbn];simp
    have hdb:decide ((0:Int)<(m:Int))=true:=decide_eq_true (by omega);have hzb:((m:Int)==0)=false:=by simp;omega
    have hib:(0:Int)<(m:Int):=by omega
    have hjb:(1:Int)≤(m:Int):=by omega
    obtain ⟨bb,ob,anb,cnb,sab,csb,eab,hlb,hcb,hrdb,hdib,hrnb,hrsb⟩:=zGp (l:=b::bt) (a:=ab) (c:=cb) (by have:=HRB.out;rwa [←hbn] at this) (d:=b) rfl;subst eab
    have hccb:m≤cb:=by have:=HRB.out;rw [←hbn] at this;obtain ⟨_,_,e,k,_⟩:=zCi this;injection e with e1 e2 e3;omega
    have hkb:(1:Int)≤(cb:Int):=by omega
    have HLB:=lH hlb;have HCB:=lH hcb;have HRDb:=lH hrdb;have HDIb:=lH hdib;have HRNb:=lH hrnb;have HRSb:=lH hrsb;have HSMb:=lH (HSB.out b (List.mem_cons_self ..));have HSBT:Hid (∀y∈bt,y.names.length≤1000000∧nodesN y.body≤1000000):=fun y hy=>HSB.out y (List.mem_cons_of_mem _ hy);have HYN:Hid (bt.length=m - 1):=by show _=_;rw [←hbn];simp
    clear hcb hrdb hdib hrnb hrsb hlb hbn
    by_cases hlt:a.id<b.id
    ·clear HW
     exfalso
     have hq:=HSI.out;simp only [List.map_cons,List.cons.injEq] at hq
     have:=hq.1;omega
    have q1:decide (a.id<b.id)=false:=decide_eq_false hlt
    by_cases hgt:b.id<a.id
    ·clear HW
     exfalso
     have hq:=HSI.out;simp only [List.map_cons,List.cons.injEq] at hq
     have:=hq.1;omega
    ·have q2:decide (b.id<a.id)=false:=decide_eq_false hgt
     have HN:=lH (HI.out.trans (yCg hlt hgt));clear HI hlt hgt;have HSIT:Hid (xt.map ODecl.id=bt.map ODecl.id):=by have hq:=HSI.out;simp only [List.map_cons,List.cons.injEq] at hq;exact hq.2
     have x0:wr.cell? ⟨ba,oa,none⟩=some (.int .i64 a.id):=(HB.out.cell (p:=⟨ba,_,none⟩) HLA.out).trans (HCA.out 0 _ rfl);have xl:ba<wr.heap.size:=Nat.lt_of_lt_of_le HLA.out HB.out.size;have y0:wr.cell? ⟨bb,ob,none⟩=some (.int .i64 b.id):=(HB.out.cell (p:=⟨bb,_,none⟩) HLB.out).trans (HCB.out 0 _ rfl);have yl:bb<wr.heap.size:=Nat.lt_of_lt_of_le HLB.out HB.out.size;go_upto_region 11 with (fail)
     go_quiet (fail)
     generalize hwd:wr.drewN _=wd1 at *
     have HB1:Hid (Bw w wd1):=by
      show RowKit.Below _ _ _
      rw [←hwd];exact below_drewN HB.out _
     have HQwd1:Hid (Bw wr wd1):=by
      show RowKit.Below _ _ _
      rw [←hwd];exact below_drewN (zAl _) _
     clear hwd;clear x0 xl y0 yl;have x0:wd1.cell? ⟨ba,oa,none⟩=some (.int .i64 a.id):=(HB1.out.cell (p:=⟨ba,_,none⟩) HLA.out).trans (HCA.out 0 _ rfl);have xl:ba<wd1.heap.size:=Nat.lt_of_lt_of_le HLA.out HB1.out.size;have y0:wd1.cell? ⟨bb,ob,none⟩=some (.int .i64 b.id):=(HB1.out.cell (p:=⟨bb,_,none⟩) HLB.out).trans (HCB.out 0 _ rfl);have yl:bb<wd1.heap.size:=Nat.lt_of_lt_of_le HLB.out HB1.out.size;go_upto_region 14 with (fail)
     go_quiet (fail)
     generalize hwd:wd1.drewN _=wd2 at *
     have HB2:Hid (Bw w wd2):=by
      show RowKit.Below _ _ _
      rw [←hwd];exact below_drewN HB1.out _
     have HQwd2:Hid (Bw wd1 wd2):=by
      show RowKit.Below _ _ _
      rw [←hwd];exact below_drewN (zAl _) _
     clear hwd;clear x0 xl y0 yl;go_upto_region 4 with (fail)
     have hbx:=CBox.new wd2 3 #[.int .i64 7,.int .i64 8,.int .i64 9];have hq3:=zAa wd2 (.cells #[.int .i64 7,.int .i64 8,.int .i64 9] 3);obtain ⟨A,hA⟩:∃A,wd2.heap.size=A:=⟨_,rfl⟩;rw [hA] at hbx ⊢;have HOW3:=lH (HW.out.1.below (zA (zA HQwd1.out HQwd2.out) hq3));have HNA:Hid (∀q,Value.ownBlock (.slice oa0 out.length oc0)=some q→q≠A):=fun q hq=>by have:=(HW.out.1.below (zA HQwd1.out HQwd2.out)).lt hq;omega
     have HB3:=lH (zA HB2.out hq3);have HAB:=lH hbx;have HAW:Hid (w.heap.size≤A):=by show _≤_;have:=HB2.out.size;omega
     have hln:=HW.out.2;generalize World.alloc wd2 _=wd3 at *;clear hbx hq3 hA;have HN0:Hid (T=(out++kindsF p a b (([7,8,9]:List Int).drop 0))++declE p xt bt):=HN;obtain ⟨v0,hv0⟩:∃v,Value.slice oa0 out.length oc0=v:=⟨_,rfl⟩;rw [hv0] at HOW3 HNA ⊢;clear hv0 HW HN;generalize wr=wo at *
     go_loopw [22,7] (fun iv ov wr=>∃(i:Nat) (o2:List OEdit),i≤3∧iv=.int .i64 i∧Hid (T=(o2++kindsF p a b (([7,8,9]:List Int).drop i))++declE p xt bt)∧Hid (OwnT wr X w.heap.size 39 5 editT ov o2∧o2.length≤out.length+i)∧Hid (CBox wr A 3 #[.int .i64 7,.int .i64 8,.int .i64 9])∧Hid (∀q,ov.ownBlock=some q→q≠A)∧Bw w wr) (fun iv _ _=>3 - (intOf iv).toNat)
     case atStart=>exact ⟨0,out,by omega,rfl,HN0,⟨HOW3.out,Nat.le_refl _⟩,HAB,HNA,HB3.out⟩
     case round=>
      clear HN0 HOW3 HAB HNA HB3;obtain ⟨i,o2,hi3,rfl,HI,HW,HAB,HNA,hbq⟩:=hrel;have HBQ:=lH hbq;have hln2:=HW.out.2;clear hbq;obtain ⟨oa1,oc1,rfl,-,-⟩:=HW.out.1.val
      by_cases hi:i<3
      ·have hd5:decide ((i:Int)<3)=true:=decide_eq_true (by omega)
       have hir:(i:Int)<3:=by omega
       obtain ⟨k,hk⟩:∃k,([7,8,9]:List Int)[i]?=some k:=⟨_,List.getElem?_eq_getElem (by simpa using hi)⟩;have HK:Hid (k=7∨k=8∨k=9):=yCh hk;have HN:=lH (HI.out.trans (congrArg (fun z=>(o2++z)++declE p xt bt) (zZr (p:=p) (a:=a) (b:=b) hk)))
       have hck:wr.cell? ⟨A,i,none⟩=some (.int .i64 k):=HAB.out.cell (by
        have:(#[Value.int .i64 7,.int .i64 8,.int .i64 9]:Array Value)[i]?=(([7,8,9]:List Int).map fun k=>Value.int .i64 k)[i]?:=by rw [←Array.getElem?_toList];rfl
        rw [this,List.getElem?_map,hk];rfl)
       have hal:=HAB.out.lt;clear hk HI;have HC1:=lH (fun W:World=>zQq k HK.out a ana cna saa csa W);have HC2:=lH (fun W:World=>zQq k HK.out b anb cnb sab csb W);unfold declV at HC1 HC2
       have SW:Hid (∀W:World,Bw wr W→(W.cell? ⟨ba,oa,none⟩=some (.int .i64 a.id)∧W.cell? ⟨ba,oa+1,none⟩=some (.int .i64 a.kind)∧W.cell? ⟨ba,oa+2,none⟩=some (.bool a.pub)∧W.cell? ⟨ba,oa+3,none⟩=some (.slice ana a.names.length cna)∧W.cell? ⟨ba,oa+4,none⟩=some (.bool a.doubt)∧W.cell? ⟨ba,oa+5,none⟩=some (.int .i64 a.body.kind)∧W.cell? ⟨ba,oa+6,none⟩=some (.string a.body.name)∧W.cell? ⟨ba,oa+7,none⟩=some (.string a.body.more)∧W.cell? ⟨ba,oa+8,none⟩=some (.int .i64 a.body.num)∧W.cell? ⟨ba,oa+9,none⟩=some (.int .i64 a.body.den)∧W.cell? ⟨ba,oa+10,none⟩=some (.slice saa a.body.subs.length csa)∧W.cell? ⟨bb,ob,none⟩=some (.int .i64 b.id)∧W.cell? ⟨bb,ob+1,none⟩=some (.int .i64 b.kind)∧W.cell? ⟨bb,ob+2,none⟩=some (.bool b.pub)∧W.cell? ⟨bb,ob+3,none⟩=some (.slice anb b.names.length cnb)∧W.cell? ⟨bb,ob+4,none⟩=some (.bool b.doubt)∧W.cell? ⟨bb,ob+5,none⟩=some (.int .i64 b.body.kind)∧W.cell? ⟨bb,ob+6,none⟩=some (.string b.body.name)∧W.cell? ⟨bb,ob+7,none⟩=some (.string b.body.more)∧W.cell? ⟨bb,ob+8,none⟩=some (.int .i64 b.body.num)∧W.cell? ⟨bb,ob+9,none⟩=some (.int .i64 b.body.den)∧W.cell? ⟨bb,ob+10,none⟩=some (.slice sab b.body.subs.length csb)∧ba<W.heap.size∧bb<W.heap.size)):=lH (fun W hW=>⟨((zA HBQ.out hW).cell (p:=⟨ba,_,none⟩) HLA.out).trans (HCA.out 0 _ rfl),((zA HBQ.out hW).cell (p:=⟨ba,_,none⟩) HLA.out).trans (HCA.out 1 _ rfl),((zA HBQ.out hW).cell (p:=⟨ba,_,none⟩) HLA.out).trans (HCA.out 2 _ rfl),((zA HBQ.out hW).cell (p:=⟨ba,_,none⟩) HLA.out).trans (HCA.out 3 _ rfl),((zA HBQ.out hW).cell (p:=⟨ba,_,none⟩) HLA.out).trans (HCA.out 4 _ rfl),((zA HBQ.out hW).cell (p:=⟨ba,_,none⟩) HLA.out).trans (HCA.out 5 _ rfl),((zA HBQ.out hW).cell (p:=⟨ba,_,none⟩) HLA.out).trans (HCA.out 6 _ rfl),((zA HBQ.out hW).cell (p:=⟨ba,_,none⟩) HLA.out).trans (HCA.out 7 _ rfl),((zA HBQ.out hW).cell (p:=⟨ba,_,none⟩) HLA.out).trans (HCA.out 8 _ rfl),((zA HBQ.out hW).cell (p:=⟨ba,_,none⟩) HLA.out).trans (HCA.out 9 _ rfl),((zA HBQ.out hW).cell (p:=⟨ba,_,none⟩) HLA.out).trans (HCA.out 10 _ rfl),((zA HBQ.out hW).cell (p:=⟨bb,_,none⟩) HLB.out).trans (HCB.out 0 _ rfl),((zA HBQ.out hW).cell (p:=⟨bb,_,none⟩) HLB.out).trans (HCB.out 1 _ rfl),((zA HBQ.out hW).cell (p:=⟨bb,_,none⟩) HLB.out).trans (HCB.out 2 _ rfl),((zA HBQ.out hW).cell (p:=⟨bb,_,none⟩) HLB.out).trans (HCB.out 3 _ rfl),((zA HBQ.out hW).cell (p:=⟨bb,_,none⟩) HLB.out).trans (HCB.out 4 _ rfl),((zA HBQ.out hW).cell (p:=⟨bb,_,none⟩) HLB.out).trans (HCB.out 5 _ rfl),((zA HBQ.out hW).cell (p:=⟨bb,_,none⟩) HLB.out).trans (HCB.out 6 _ rfl),((zA HBQ.out hW).cell (p:=⟨bb,_,none⟩) HLB.out).trans (HCB.out 7 _ rfl),((zA HBQ.out hW).cell (p:=⟨bb,_,none⟩) HLB.out).trans (HCB.out 8 _ rfl),((zA HBQ.out hW).cell (p:=⟨bb,_,none⟩) HLB.out).trans (HCB.out 9 _ rfl),((zA HBQ.out hW).cell (p:=⟨bb,_,none⟩) HLB.out).trans (HCB.out 10 _ rfl),Nat.lt_of_lt_of_le HLA.out (zA HBQ.out hW).size,Nat.lt_of_lt_of_le HLB.out (zA HBQ.out hW).size⟩)
       have hb00:0<m:=by omega
       have hb0:Bw wr wr.drew:=(Mod.refl [] wr).drew.below;go_upto_region 6 with (fail)
       clear hck hal
       go_cut [10,11] from 23 to 50 (fun P1 P2 wx=>∃D1 D2,P1=.pointer (some ⟨D1,0,none⟩)∧P2=.pointer (some ⟨D2,0,none⟩)∧CBox wx D1 62 #[.int .i64 (partD k a).id,.int .i64 (partD k a).kind,.bool (partD k a).pub,.slice (mtA k ana) (partD k a).names.length (mC k cna),.bool (partD k a).doubt,.int .i64 (partD k a).body.kind,.string (partD k a).body.name,.string (partD k a).body.more,.int .i64 (partD k a).body.num,.int .i64 (partD k a).body.den,.slice (sA k saa) (partD k a).body.subs.length (sC k csa)]∧CBox wx D2 62 #[.int .i64 (partD k b).id,.int .i64 (partD k b).kind,.bool (partD k b).pub,.slice (mtA k anb) (partD k b).names.length (mC k cnb),.bool (partD k b).doubt,.int .i64 (partD k b).body.kind,.string (partD k b).body.name,.string (partD k b).body.more,.int .i64 (partD k b).body.num,.int .i64 (partD k b).body.den,.slice (sA k sab) (partD k b).body.subs.length (sC k csb)]∧RowKit.Below wr.heap.size wr wx)
       case first=>
        refine wp_region_noPanic (zSr 12 10 11 (fun k W=>CBox W k 62 dZ) (fun i v _=>R6 k (.slice (some ⟨ba,oa,none⟩) n ca) (.pointer (some ⟨ba,oa,none⟩)) (.agg #[.int .i64 a.id,.int .i64 a.kind,.bool a.pub,.slice ana a.names.length cna,.bool a.doubt,.int .i64 a.body.kind,.string a.body.name,.string a.body.more,.int .i64 a.body.num,.int .i64 a.body.den,.slice saa a.body.subs.length csa]) (.agg #[.int .i64 (partD k a).id,.int .i64 (partD k a).kind,.bool (partD k a).pub,.slice (mtA k ana) (partD k a).names.length (mC k cna),.bool (partD k a).doubt,.int .i64 (partD k a).body.kind,.string (partD k a).body.name,.string (partD k a).body.more,.int .i64 (partD k a).body.num,.int .i64 (partD k a).body.den,.slice (sA k saa) (partD k a).body.subs.length (sC k csa)]) (.slice (some ⟨bb,ob,none⟩) m cb) (.pointer (some ⟨bb,ob,none⟩)) (.agg #[.int .i64 b.id,.int .i64 b.kind,.bool b.pub,.slice anb b.names.length cnb,.bool b.doubt,.int .i64 b.body.kind,.string b.body.name,.string b.body.more,.int .i64 b.body.num,.int .i64 b.body.den,.slice sab b.body.subs.length csb]) (.agg #[.int .i64 (partD k b).id,.int .i64 (partD k b).kind,.bool (partD k b).pub,.slice (mtA k anb) (partD k b).names.length (mC k cnb),.bool (partD k b).doubt,.int .i64 (partD k b).body.kind,.string (partD k b).body.name,.string (partD k b).body.more,.int .i64 (partD k b).body.num,.int .i64 (partD k b).body.den,.slice (sA k sab) (partD k b).body.subs.length (sC k csb)]) i v) (by decide) (by decide) (by decide) zBm (by kernel_rfl) (fun _ _ _ h=>h) (by kernel_rfl) (fun _ _ _ _ h _=>h) (fun _ _ _ h _ k=>h.below k) ?_ (by kernel_rfl) (AllD.all (by kernel_rfl) (by kernel_rfl) ?_) ?_)
        ·rintro i o (rfl|rfl) ho
         ·obtain rfl:=Option.some.inj ho
          exact ⟨rfl,fun a w1 K hK=>zMv rfl (hK.out _ (zAa _ _) (by rw [World.size_alloc];omega) (CBox.new _ _ _))⟩
         ·obtain rfl:=Option.some.inj ho
          exact ⟨rfl,fun a w1 K hK=>zMv rfl (hK.out _ (zAa _ _) (by rw [World.size_alloc];omega) (CBox.new _ _ _))⟩
        ·show AllD _ _ _ _ _ _ _ _ _ 0 (_::_)
         refine AllD.step ?_ ?_
         ·intro fa vals w1 hf hbw hn
          refine ⟨(fun _ _ e=>by cases e),fun K hK=>?_⟩;exact zJh rfl (hK.out _ _ (zAl _) ((hf.out 9 (by kernel_rfl)).trans rfl))
         refine AllD.step ?_ ?_
         ·intro fa vals w1 hf hbw hn
          refine ⟨(fun _ _ e=>by cases e),fun K hK=>?_⟩;exact zJh rfl (hK.out _ _ (zAl _) ((hf.out 1 (by kernel_rfl)).trans rfl))
         refine AllD.step ?_ ?_
         ·intro fa vals w1 hf hbw hn
          refine ⟨(fun _ _ e=>by cases e),fun K hK=>?_⟩;exact zQo rfl ((hf.at_ 1 27 (by decide) rfl).trans (hn 1 (by decide))) ha0 (hK.out _ _ (zAl _) rfl)
         refine AllD.step ?_ ?_
         ·intro fa vals w1 hf hbw hn
          refine ⟨(fun _ _ e=>by cases e),fun K hK=>?_⟩;exact zQp rfl ((hf.at_ 2 28 (by decide) rfl).trans (hn 2 (by decide))) (fun j u hj=>((zA HBQ.out hbw).cell (p:=⟨ba,_,none⟩) HLA.out).trans (HCA.out j u hj)) (hK.out _ _ (zAl _) rfl)
         refine AllD.step ?_ ?_
         ·intro fa vals w1 hf hbw hn
          refine ⟨(fun _ _ e=>by cases e),fun K hK=>?_⟩
          exact zUb (vs:=#[.int .i64 k,(.agg #[.int .i64 a.id,.int .i64 a.kind,.bool a.pub,.slice ana a.names.length cna,.bool a.doubt,.int .i64 a.body.kind,.string a.body.name,.string a.body.more,.int .i64 a.body.num,.int .i64 a.body.den,.slice saa a.body.subs.length csa])]) rfl rfl (by simp only [List.map_toArray,List.map_cons,List.map_nil];rw [(hf.at_ 0 26 (by decide) rfl).trans (hn 0 (by decide)),(hf.at_ 3 29 (by decide) rfl).trans (hn 3 (by decide))]) (enters_of Tryz.func89 (by kernel_rfl) rfl) ((HC1.out w1).mono fun e w2 h=>⟨_,h.1,hK.out _ _ h.2 rfl⟩)
         refine AllD.step ?_ ?_
         ·intro fa vals w1 hf hbw hn
          refine ⟨(fun _ _ e=>by cases e),fun K hK=>?_⟩;exact zJh rfl (hK.out _ _ (zAl _) ((hf.out 9 (by kernel_rfl)).trans rfl))
         refine AllD.step ?_ ?_
         ·intro fa vals w1 hf hbw hn
          refine ⟨(fun _ _ e=>by cases e),fun K hK=>?_⟩;exact zJh rfl (hK.out _ _ (zAl _) ((hf.out 2 (by kernel_rfl)).trans rfl))
         refine AllD.step ?_ ?_
         ·intro fa vals w1 hf hbw hn
          refine ⟨(fun _ _ e=>by cases e),fun K hK=>?_⟩;exact zQo rfl ((hf.at_ 6 32 (by decide) rfl).trans (hn 6 (by decide))) hb00 (hK.out _ _ (zAl _) rfl)
         refine AllD.step ?_ ?_
         ·intro fa vals w1 hf hbw hn
          refine ⟨(fun _ _ e=>by cases e),fun K hK=>?_⟩;exact zQp rfl ((hf.at_ 7 33 (by decide) rfl).trans (hn 7 (by decide))) (fun j u hj=>((zA HBQ.out hbw).cell (p:=⟨bb,_,none⟩) HLB.out).trans (HCB.out j u hj)) (hK.out _ _ (zAl _) rfl)
         refine AllD.step ?_ ?_
         ·intro fa vals w1 hf hbw hn
          refine ⟨(fun _ _ e=>by cases e),fun K hK=>?_⟩
          exact zUb (vs:=#[.int .i64 k,(.agg #[.int .i64 b.id,.int .i64 b.kind,.bool b.pub,.slice anb b.names.length cnb,.bool b.doubt,.int .i64 b.body.kind,.string b.body.name,.string b.body.more,.int .i64 b.body.num,.int .i64 b.body.den,.slice sab b.body.subs.length csb])]) rfl rfl (by simp only [List.map_toArray,List.map_cons,List.map_nil];rw [(hf.at_ 5 31 (by decide) rfl).trans (hn 5 (by decide)),(hf.at_ 8 34 (by decide) rfl).trans (hn 8 (by decide))]) (enters_of Tryz.func89 (by kernel_rfl) rfl) ((HC2.out w1).mono fun e w2 h=>⟨_,h.1,hK.out _ _ h.2 rfl⟩)
         refine AllD.skipA ?_;refine AllD.skipB ?_;exact trivial
        ·intro D1 D2 vals V2 hbw hg1 hg2 hl1 hl2 hne e10 e11 hx1 hx2 hr
         have e4:vals 4=(.agg #[.int .i64 (partD k a).id,.int .i64 (partD k a).kind,.bool (partD k a).pub,.slice (mtA k ana) (partD k a).names.length (mC k cna),.bool (partD k a).doubt,.int .i64 (partD k a).body.kind,.string (partD k a).body.name,.string (partD k a).body.more,.int .i64 (partD k a).body.num,.int .i64 (partD k a).body.den,.slice (sA k saa) (partD k a).body.subs.length (sC k csa)]):=hr 4 (by decide) (by decide) (by decide)
         have e9:vals 9=(.agg #[.int .i64 (partD k b).id,.int .i64 (partD k b).kind,.bool (partD k b).pub,.slice (mtA k anb) (partD k b).names.length (mC k cnb),.bool (partD k b).doubt,.int .i64 (partD k b).body.kind,.string (partD k b).body.name,.string (partD k b).body.more,.int .i64 (partD k b).body.num,.int .i64 (partD k b).body.den,.slice (sA k sab) (partD k b).body.subs.length (sC k csb)]):=hr 9 (by decide) (by decide) (by decide)
         refine zZp (h:=by simp only [fullR,dstR,List.getElem?_toArray,List.getElem?_cons_succ,List.getElem?_cons_zero,Option.bind_some,Act.put,List.setIfInBounds_toArray,List.set_cons_zero,List.set_cons_succ,e4,e9,e10,e11];rfl) ?_;clear hr e4 e9 e10 e11;generalize vals 0=u80;generalize vals 1=u81;generalize vals 2=u82;generalize vals 3=u83;generalize vals 5=u84;generalize vals 6=u85;generalize vals 7=u86;generalize vals 8=u87;clear vals SW HC1 HC2 hb0;have hn12:D2≠D1:=fun e=>hne e.symm
         refine zUc rfl (zMw rfl rfl rfl hx1 fun v1 X1 m1 c1=>?_);have k2:=hx2.mod m1 (by simpa using hn12);have hbb1:=hbw.trans (m1.upto hbw.size (by intro q hq;simp at hq;omega));refine zUc rfl (zMw rfl rfl rfl k2 fun v2 X2 m2 c2=>?_);have k1:=c1.mod m2 (by simpa using hne);have hbb2:=hbb1.trans (m2.upto hbb1.size (by intro q hq;simp at hq;omega));refine wpList_nil ?_;refine NoPanic.normal ?_
         (try simp only [Act.put])
         (try go_wp2)
         go_meet
         case rel=>exact ⟨_,_,rfl,rfl,k1,c2,hbb2⟩
       case rest=>
       obtain ⟨D1,D2,rfl,rfl,hc1,hc2,hb6⟩:=hcut;clear HC1 HC2 SW hb0;have HD1:=lH hc1;have HD2:=lH hc2;have HB6:=lH (zA HBQ.out hb6);have HQ6:=lH hb6;clear hc1 hc2 hb6;generalize wc=W6 at *;have HEQ:=lH (zCs (partD k a) (partD k b) (mtA k ana) (mC k cna) (sA k saa) (sC k csa) (mtA k anb) (mC k cnb) (sA k sab) (sC k csb) W6 (zUd HK.out (HDIa.out.below HB6.out)) (zUd HK.out (HDIb.out.below HB6.out)) (zKs HSMa.out).1 (zKs HSMa.out).2);unfold declV at HEQ
       generalize hsd:sameD (partD k a) (partD k b)=sd at *;clear hsd;obtain ⟨x0,x1,x2,x3,x4,x5,x6,x7,x8,x9,x10,xl⟩:=zAz HD1.out;obtain ⟨y0,y1,y2,y3,y4,y5,y6,y7,y8,y9,y10,yl⟩:=zAz HD2.out;go_wp2_with (fail)
       refine HEQ.out.mono ?_;rintro r W7 ⟨rfl,hb7⟩;have HD1':=lH (HD1.out.below hb7);have HD2':=lH (HD2.out.below hb7);have HB7:=lH (zA HB6.out hb7);have HQ7:=lH (zA HQ6.out hb7);clear hb7 HEQ HD1 HD2 HB6 HQ6;clear x0 y0 x1 y1 x2 y2 x3 y3 x4 y4 x5 y5 x6 y6 x7 y7 x8 y8 x9 y9 x10 y10 xl yl
       cases sd with
       | true=>
        simp only [if_true] at HN
        have HO7:Hid (OwnT W7 X w.heap.size 39 5 editT (.slice oa1 o2.length oc1) o2∧o2.length≤out.length+(i+1)):=⟨HW.out.1.below HQ7.out,by omega⟩;have HAB7:=lH (HAB.out.below HQ7.out);go_wp2;go_roundw
        case rel=>exact ⟨i+1,o2,by omega,by go_num,HN,HO7,HAB7,HNA,HB7.out⟩
        case measure=>simp [intOf];omega
       | false=>
        simp only [Bool.false_eq_true,if_false] at HN
        rw [zMu] at HN;obtain ⟨x0,x1,x2,x3,x4,x5,x6,x7,x8,x9,x10,xl⟩:=zAz (HD1'.out);obtain ⟨y0,y1,y2,y3,y4,y5,y6,y7,y8,y9,y10,yl⟩:=zAz (HD2'.out);obtain ⟨ys,hown,hys⟩:=HW.out.1.below HQ7.out;obtain ⟨B1,hB1⟩:∃B1,W7.heap.size=B1:=⟨_,rfl⟩;have yl2:D2<B1:=by rw [←hB1];exact yl
        have hq1:=zAa W7 (.cells #[.int .i64 (partD k a).id,.int .i64 (partD k a).kind,.bool (partD k a).pub,.slice (mtA k ana) (partD k a).names.length (mC k cna),.bool (partD k a).doubt,.int .i64 (partD k a).body.kind,.string (partD k a).body.name,.string (partD k a).body.more,.int .i64 (partD k a).body.num,.int .i64 (partD k a).body.den,.slice (sA k saa) (partD k a).body.subs.length (sC k csa)] 62)
        have hbx1:CBox (W7.alloc (.cells #[.int .i64 (partD k a).id,.int .i64 (partD k a).kind,.bool (partD k a).pub,.slice (mtA k ana) (partD k a).names.length (mC k cna),.bool (partD k a).doubt,.int .i64 (partD k a).body.kind,.string (partD k a).body.name,.string (partD k a).body.more,.int .i64 (partD k a).body.num,.int .i64 (partD k a).body.den,.slice (sA k saa) (partD k a).body.subs.length (sC k csa)] 62)) B1 62 (declL (partD k a) (mtA k ana) (mC k cna) (sA k saa) (sC k csa)).toArray:=by rw [←hB1];exact CBox.new _ _ _
        have hs1:(W7.alloc (.cells #[.int .i64 (partD k a).id,.int .i64 (partD k a).kind,.bool (partD k a).pub,.slice (mtA k ana) (partD k a).names.length (mC k cna),.bool (partD k a).doubt,.int .i64 (partD k a).body.kind,.string (partD k a).body.name,.string (partD k a).body.more,.int .i64 (partD k a).body.num,.int .i64 (partD k a).body.den,.slice (sA k saa) (partD k a).body.subs.length (sC k csa)] 62)).heap.size=B1+1:=by rw [World.size_alloc,hB1]
        obtain ⟨W8,hW8⟩:∃W8,W8=W7.alloc (.cells #[.int .i64 (partD k a).id,.int .i64 (partD k a).kind,.bool (partD k a).pub,.slice (mtA k ana) (partD k a).names.length (mC k cna),.bool (partD k a).doubt,.int .i64 (partD k a).body.kind,.string (partD k a).body.name,.string (partD k a).body.more,.int .i64 (partD k a).body.num,.int .i64 (partD k a).body.den,.slice (sA k saa) (partD k a).body.subs.length (sC k csa)] 62):=⟨_,rfl⟩;rw [←hW8] at hq1 hbx1 hs1
        have hq2:=zAa W8 (.cells #[.int .i64 (partD k b).id,.int .i64 (partD k b).kind,.bool (partD k b).pub,.slice (mtA k anb) (partD k b).names.length (mC k cnb),.bool (partD k b).doubt,.int .i64 (partD k b).body.kind,.string (partD k b).body.name,.string (partD k b).body.more,.int .i64 (partD k b).body.num,.int .i64 (partD k b).body.den,.slice (sA k sab) (partD k b).body.subs.length (sC k csb)] 62)
        have hbx2:CBox (W8.alloc (.cells #[.int .i64 (partD k b).id,.int .i64 (partD k b).kind,.bool (partD k b).pub,.slice (mtA k anb) (partD k b).names.length (mC k cnb),.bool (partD k b).doubt,.int .i64 (partD k b).body.kind,.string (partD k b).body.name,.string (partD k b).body.more,.int .i64 (partD k b).body.num,.int .i64 (partD k b).body.den,.slice (sA k sab) (partD k b).body.subs.length (sC k csb)] 62)) (B1+1) 62 (declL (partD k b) (mtA k anb) (mC k cnb) (sA k sab) (sC k csb)).toArray:=by rw [←hs1];exact CBox.new _ _ _
        have hs2:(W8.alloc (.cells #[.int .i64 (partD k b).id,.int .i64 (partD k b).kind,.bool (partD k b).pub,.slice (mtA k anb) (partD k b).names.length (mC k cnb),.bool (partD k b).doubt,.int .i64 (partD k b).body.kind,.string (partD k b).body.name,.string (partD k b).body.more,.int .i64 (partD k b).body.num,.int .i64 (partD k b).body.den,.slice (sA k sab) (partD k b).body.subs.length (sC k csb)] 62)).heap.size=B1+1+1:=by rw [World.size_alloc,hs1]
        obtain ⟨W9,hW9⟩:∃W9,W9=W8.alloc (.cells #[.int .i64 (partD k b).id,.int .i64 (partD k b).kind,.bool (partD k b).pub,.slice (mtA k anb) (partD k b).names.length (mC k cnb),.bool (partD k b).doubt,.int .i64 (partD k b).body.kind,.string (partD k b).body.name,.string (partD k b).body.more,.int .i64 (partD k b).body.num,.int .i64 (partD k b).body.den,.slice (sA k sab) (partD k b).body.subs.length (sC k csb)] 62):=⟨_,rfl⟩;rw [←hW9] at hq2 hbx2 hs2
        have hq3:=zAa W9 (.cells #[.int .i64 k,.string p,.string ⟨#[]⟩,.slice (some ⟨B1,0,none⟩) 1 1,.slice (some ⟨B1+1,0,none⟩) 1 1] 39);have hR:=zAs (zJf W9 W9.heap.size (Nat.le_refl _) 39 #[.int .i64 k,.string p,.string ⟨#[]⟩,.slice (some ⟨B1,0,none⟩) 1 1,.slice (some ⟨B1+1,0,none⟩) 1 1] 5 1 rfl (by omega));obtain ⟨W10,hW10⟩:∃W10,W10=W9.alloc (.cells #[.int .i64 k,.string p,.string ⟨#[]⟩,.slice (some ⟨B1,0,none⟩) 1 1,.slice (some ⟨B1+1,0,none⟩) 1 1] 39):=⟨_,rfl⟩;rw [←hW10] at hq3 hR;rw [hs2] at hR
        have HW8:=lH hW8;have HW9:=lH hW9;have HW10:=lH hW10;clear hW8 hW9 hW10;have hq123:=zA hq1 (zA hq2 hq3);have HOW:=lH (zAq hown hq123);have hge:∀k,Value.ownBlock (.slice oa1 o2.length oc1)=some k→w.heap.size≤k∧k<W7.heap.size:=fun k hk=>hown.lt k hk;have hYs:ReadsL W10 ((Value.ownBlock (.slice oa1 o2.length oc1)).toList++X) (o2.flatMap editT) ys:=hys.below hq123
        have hnewA:ReadsL W10 ((Value.ownBlock (.slice oa1 o2.length oc1)).toList++X) (declT (partD k a)) (declL (partD k a) (mtA k ana) (mC k cna) (sA k saa) (sC k csa)):=zZq HK.out ((zEg HRNa.out (fun k hk=>(hge k (by simpa using hk)).1)).below (zA HB7.out hq123)) ((zEg HRSa.out (fun k hk=>(hge k (by simpa using hk)).1)).below (zA HB7.out hq123))
        have hnewB:ReadsL W10 ((Value.ownBlock (.slice oa1 o2.length oc1)).toList++X) (declT (partD k b)) (declL (partD k b) (mtA k anb) (mC k cnb) (sA k sab) (sC k csb)):=zZq HK.out ((zEg HRNb.out (fun k hk=>(hge k (by simpa using hk)).1)).below (zA HB7.out hq123)) ((zEg HRSb.out (fun k hk=>(hge k (by simpa using hk)).1)).below (zA HB7.out hq123))
        have hBn:∀B,W7.heap.size≤B→B∉(Value.ownBlock (.slice oa1 o2.length oc1)).toList++X:=fun B hB c=>by
         rcases List.mem_append.1 c with c|c
         ·have:=(hge B (by simpa using c)).2;omega
         ·have:=HXX.out B c;have:=HB7.out.size;omega
        have hsz8:=hq1.size;have HNEW:=lH (yCf (k:=k) (p:=p) (zOj (hbx1.below (zA hq2 hq3)) hnewA (hBn B1 (by omega))) (zOj (hbx2.below hq3) hnewB (hBn (B1+1) (by omega))));have HYS:=lH hYs;have HR:=lH hR;have HBN:=lH (zA HB7.out hq123);have HABN:=lH ((HAB.out.below HQ7.out).below hq123);have hsw:=HBN.out.size;have hAl:=(HAB.out.below HQ7.out).lt;have HSZ:Hid (W7.heap.size≤W10.heap.size):=hq123.size;clear hown hys hbx1 hbx2 hq1 hq2 hq3 hq123 hge hYs hnewA hnewB hBn hR hsz8
        go_wp2_with (at_builtin;(try rw [hB1]);(try rw [←HW8.out]);(try rw [←HW9.out]);(try rw [←HW10.out]);refine zAd rfl _ _ 23 rfl w.heap.size 39 i0 _ 5 88 Tryz.underlying23 hi0 hz0 hz1 hz2 hzs (by decide) _ _ _ rfl HOW.out _ _ _ rfl HR.out (by intro u hu;simp only [List.mem_cons,List.not_mem_nil,or_false] at hu;rcases hu with rfl|rfl|rfl|rfl|rfl<;>rfl) (by unfold maxLen;omega) (by omega) (by omega) ?_)
        intro v5 w5 hown5 hg5 hbk5;have HB5:=lH (HBN.out.grown hg5 (by omega) (fun x hx=>(HOW.out.lt x hx).1));have hO5:OwnT w5 X w.heap.size 39 5 editT v5 (o2++[partE7 p a b k]):=OwnT.grown HOW.out HYS.out HNEW.out hown5 hg5 hbk5;have HO5:Hid (OwnT w5 X w.heap.size 39 5 editT v5 (o2++[partE7 p a b k])∧(o2++[partE7 p a b k]).length≤out.length+(i+1)):=⟨hO5,by rw [List.length_append,List.length_singleton];omega⟩
        have HAB5:Hid (CBox w5 A 3 #[.int .i64 7,.int .i64 8,.int .i64 9]):=(hg5.block A HABN.out.lt (fun e=>HNA.out A e.symm rfl)).trans HABN.out
        have HNA5:Hid (∀q,v5.ownBlock=some q→q≠A):=by
         show ∀q,_
         intro q hq
         rcases hbk5 with e|e
         ·exact HNA.out q (e▸hq)
         ·rw [e] at hq
          injection hq with hq
          have:=HSZ.out;omega
        clear hown5 hg5 hbk5 hO5 HW8 HW9 HW10 hB1 hs1 hs2;clear x0 y0 x1 y1 x2 y2 x3 y3 x4 y4 x5 y5 x6 y6 x7 y7 x8 y8 x9 y9 x10 y10 xl yl yl2;go_wp2;go_roundw
        case rel=>exact ⟨i+1,_,by omega,by go_num,HN,HO5,HAB5,HNA5,HB5.out⟩
        case measure=>simp [intOf];omega
      ·have hd5:decide ((i:Int)<3)=false:=decide_eq_false (by omega)
       obtain rfl:i=3:=by omega
       have HN:Hid (T=o2++declE p xt bt):=by
        show _=_
        rw [HI.out];have:kindsF p a b (([7,8,9]:List Int).drop 3)=[]:=rfl;rw [this,List.append_nil]
       clear HI HAB HNA;obtain ⟨aj,hej⟩:∃aj,(if ca=1 then some (⟨ba,oa,none⟩:Addr) else some ⟨ba,oa+11,none⟩)=aj:=⟨_,rfl⟩;obtain ⟨bj,hfj⟩:∃bj,(if cb=1 then some (⟨bb,ob,none⟩:Addr) else some ⟨bb,ob+11,none⟩)=bj:=⟨_,rfl⟩;have HAJ1:=lH hej;have HAJ2:=lH hfj
       have HXT:Hid (Reads w X (declsT xt) (.slice aj (n - 1) (ca - 1))):=by
        have h1:=HRX.out;rw [←HNX.out] at h1
        have h2:=zGa (size:=11) (f:=declT) zDa (x:=a) (r:=xt) h1 aj (fun b' o' h0 e=>by
         injection e with e
         injection e with e1 e2
         subst e1 e2;have:=HXN.out
         rw [←HAJ1.out,if_neg (by omega)])
        rwa [HXN.out] at h2
       have HBT:Hid (Reads w X (declsT bt) (.slice bj (m - 1) (cb - 1))):=by
        have h1:=HRB.out;rw [←HNB.out] at h1
        have h2:=zGa (size:=11) (f:=declT) zDa (x:=b) (r:=bt) h1 bj (fun b' o' h0 e=>by
         injection e with e
         injection e with e1 e2
         subst e1 e2;have:=HYN.out
         rw [←HAJ2.out,if_neg (by omega)])
        rwa [HYN.out] at h2
       have hb8:Bw wr wr.drew:=(Mod.refl [] wr).drew.below;have HB8:=lH (zA HBQ.out hb8);have HO8:Hid (OwnT wr.drew X w.heap.size 39 5 editT (.slice oa1 o2.length oc1) o2∧3 * (n - 1+(m - 1))+o2.length≤K):=⟨HW.out.1.below hb8,by have:=HW.out.2;omega⟩;go_upto_region 10 with (fail)
       refine wp_region_noPanic (zBe (fun _:World=>True) 5 [(true,0),(true,1),(true,2),(true,3),(true,4)] zBm (by kernel_rfl) (fun _ _ _ _ _ h=>h) trivial ?_)
       iterate 5 (refine zAy (v:=?_) rfl (by rfl) ?_ ?_;rotate_left;(focus (intro wq hSw;(try dsimp only at hSw);go_simp;(try rw [if_neg (by first|omega|(simp;omega))]);(try with_reducible rfl)));(try simp only [gA,gB,gC,Act.put,gD,gE,gF]))
       refine zBy ?_;clear hb8
       (try rw [hej])
       (try rw [hfj])
       clear hej hfj;generalize wr.drew=W8 at *;go_wp2;refine NoPanic.normal ?_;go_wp2;go_roundw
       case rel=>exact ⟨xt,bt,o2,aj,n - 1,ca - 1,bj,m - 1,cb - 1,rfl,rfl,HN,HO8,HXT,HXN,HBT,HYN,HSAT,HSBT,HSIT,HB8.out⟩
       case measure=>simp only [lenV];omega
end Go.Proofs.YtfkjfdbjhlmjcaaGreatDoor
