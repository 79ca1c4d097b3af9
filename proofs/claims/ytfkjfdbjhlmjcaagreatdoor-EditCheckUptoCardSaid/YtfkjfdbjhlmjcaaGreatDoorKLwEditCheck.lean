/- The law EditCheck. -/
import Derived.Test.YtfkjfdbjhlmjcaaGreatDoorKDEX
import Derived.Test.YtfkjfdbjhlmjcaaGreatDoorKKI
set_option maxRecDepth 100000
set_option maxHeartbeats 16000000
namespace Go.Proofs.YtfkjfdbjhlmjcaaGreatDoor
open Go.RowKit Go.Shelf
attribute [local go_sem] Oper.semAt_some
theorem zVq (W:World) (e:OEdit) (ao:Option Addr) (co:Nat) (af:Option Addr) (cf:Nat) (he:EditIn W e ao co af cf) :
  Reads (W.alloc (.cells #[.int .i64 e.kind,.string e.pack,.string e.text,.slice ao e.old.length co,.slice af e.fresh.length cf] 39)) [] (editsT [e]) (.slice (some ⟨W.heap.size,0,none⟩) 1 1):=by
 refine Reads.ofRow (l:=[e]) (zAo (zGy W W.heap.size (Nat.le_refl _) 39 _ 5 1 rfl (by omega))) (fun _ b _=>by simp) ?_;have h1:=he.below (zAa W (.cells #[.int .i64 e.kind,.string e.pack,.string e.text,.slice ao e.old.length co,.slice af e.fresh.length cf] 39));rw [List.flatMap_cons,List.flatMap_nil,List.append_nil];exact ReadsL.cons (Reads.leaf' _ _ _) (ReadsL.cons (Reads.leaf' _ _ _) (ReadsL.cons (Reads.leaf' _ _ _) (ReadsL.cons h1.old (ReadsL.cons h1.fresh (ReadsL.nil _ _)))))
section
variable {o:Oper} {fa:Act} {w:World} {K:Act→World→Prop} {Q:Exit→Act→World→Prop}
theorem zTh {x:Operand} {B:Nat} {a0 a1 a2 a3 a4:Value} (ho:o.op=.load 39 x) (hx:fa.eval x=.pointer (some ⟨B,0,none⟩)) (hb:CBox w B 39 #[a0,a1,a2,a3,a4]) (h:K (fa.put o.dst (.agg #[a0,a1,a2,a3,a4])) w):Oper.wp Tryz.prog o fa w K Q:=by
 have h0:=hb.cell (i:=0) (v:=a0) rfl;have h1:=hb.cell (i:=1) (v:=a1) rfl;have h2:=hb.cell (i:=2) (v:=a2) rfl;have h3:=hb.cell (i:=3) (v:=a3) rfl;have h4:=hb.cell (i:=4) (v:=a4) rfl;have hl:=hb.lt;unfold Oper.wp execOp;simp only [ho,hx]
 go_simp
 exact h
theorem zSc {x c d:Operand} {v:Value} (ho:o.op=.pick c x d) (hc:fa.eval c=.bool true) (hx:fa.eval x=v) (h:K (fa.put o.dst v) w):Oper.wp Tryz.prog o fa w K Q:=by
 unfold Oper.wp execOp;simp only [ho,hc]
 rw [hx];exact h
theorem yCo {x y:Operand} {i j:Int} {b:Bool} (ho:o.op=.binOp .eql 27 x y 27) (hx:fa.eval x=.int .i64 i) (hy:fa.eval y=.int .i64 j) (hb:(i==j)=b) (h:K (fa.put o.dst (.bool b)) w):Oper.wp Tryz.prog o fa w K Q:=by
 unfold Oper.wp execOp;simp only [ho,hx,hy]
 go_simp
 exact h
theorem yEf {x y:Operand} {i j:ByteArray} {b:Bool} (ho:o.op=.binOp .eql 9 x y 9) (hx:fa.eval x=.string i) (hy:fa.eval y=.string j) (hb:(i.toList==j.toList)=b) (h:K (fa.put o.dst (.bool b)) w):Oper.wp Tryz.prog o fa w K Q:=by
 unfold Oper.wp execOp;simp only [ho,hx,hy]
 go_simp
 exact h
end
theorem zLh (e:OEdit) (ao:Option Addr) (co:Nat) (af:Option Addr) (cf:Nat) (w:World) (he:EditIn w e ao co af cf) (hbe:BigE e) :
  Calls Tryz.prog 5 #[editV e ao co af cf] w fun r w'=>r=.returned (.bool true)∧Bw w w':=by
 have HRD:=lH (fun W (h:Bw w W)=>zVq W e ao co af cf (he.below h))
 have HGR:=lH (fun W (h:Bw w W)=>zK [e] (some ⟨W.heap.size,0,none⟩) 1 _ (HRD.o W h) (fun x hx=>by
  rw [List.mem_singleton] at hx;subst hx
  exact ⟨⟨hbe.pack,hbe.text⟩,hbe.old,hbe.fresh⟩) (by simp))
 have HG:=lH (CBox.new w 39 #[.int .i64 e.kind,.string e.pack,.string e.text,.slice ao e.old.length co,.slice af e.fresh.length cf]);have HA:=lH (zAa w (.cells #[.int .i64 e.kind,.string e.pack,.string e.text,.slice ao e.old.length co,.slice af e.fresh.length cf] 39))
 have HSE:Hid (greatEs [e]=false→SmE e):=fun h=>by
  unfold greatEs at h;simp only [List.any_cons,List.any_nil,Bool.or_false,Bool.or_eq_false_iff] at h
  exact yDy hbe h.1
 have HE:=lH he;clear he hbe;unfold editV
 go_enter Tryz.func5,Tryz.ntmps5
 go_upto_region 1 with (fail)
 obtain ⟨Z,hZ⟩:∃Z,w.heap.size=Z:=⟨_,rfl⟩;have HZ:=lH hZ;rw [hZ] at HG ⊢;clear hZ;generalize World.alloc w _=w0 at *;generalize greatEs [e]=ge at *;have e0:=HG.o.cell (i:=0) (v:=.int .i64 e.kind) rfl;have e1:=HG.o.cell (i:=1) (v:=.string e.pack) rfl;have e2:=HG.o.cell (i:=2) (v:=.string e.text) rfl;have e3:=HG.o.cell (i:=3) (v:=.slice ao e.old.length co) rfl;have e4:=HG.o.cell (i:=4) (v:=.slice af e.fresh.length cf) rfl;have el:=HG.o.lt;have HC1:=lH (HGR.o w0 HA.o);go_wp2_with (fail)
 refine HC1.o.mono ?_;rintro r w2 ⟨rfl,hb2⟩;have HB2:=lH (zA (zAa w0 _) hb2);clear hb2 HC1 HGR HRD;clear e0 e1 e2 e3 e4 el;have HW2:=lH (zA HA.o HB2.o);have HG2:=lH (HG.o.below HB2.o);clear HB2 HG HA
 cases ge with
 | true=>
  go_wp2_with (fail)
  refine (zKs _).mono ?_;rintro r w19 ⟨rfl,hb19⟩;have HF19:=lH (zA HW2.o hb19);clear hb19;go_wp2;go_ret;exact ⟨rfl,HF19.o⟩
 | false=>
 have HSX:=lH (HSE.o (by first|exact rfl|exact trivial));have HC1:=lH (fun W (h:Bw w W)=>zVa e ao co af cf W (HE.o.below h) HSX.o);have HC2:=lH (fun W (h:Bw w W)=>zSb e ao co af cf W (HE.o.below h) HSX.o);have HK1:=lH (fun W (h:Bw w W)=>zHp e ao co af cf W (HE.o.below h) HSX.o);have HK2:=lH (fun W (h:Bw w W)=>zIg e ao co af cf W (HE.o.below h) HSX.o);unfold editV at HC1 HC2 HK1 HK2;clear HSE HSX HE;generalize encS e=S at *;generalize editErr e=E at *
 have e0:=HG2.o.cell (i:=0) (v:=.int .i64 e.kind) rfl;have e1:=HG2.o.cell (i:=1) (v:=.string e.pack) rfl;have e2:=HG2.o.cell (i:=2) (v:=.string e.text) rfl;have e3:=HG2.o.cell (i:=3) (v:=.slice ao e.old.length co) rfl;have e4:=HG2.o.cell (i:=4) (v:=.slice af e.fresh.length cf) rfl;have el:=HG2.o.lt;go_wp2_with (fail)
 refine (HC1.o w2 HW2.o).mono ?_;rintro r w3 ⟨rfl,hb3⟩;have HW3:=lH (zA HW2.o hb3);have HG3:=lH (HG2.o.below hb3);clear hb3 HC1 HW2 HG2;clear e0 e1 e2 e3 e4 el;have e0:=HG3.o.cell (i:=0) (v:=.int .i64 e.kind) rfl;have e1:=HG3.o.cell (i:=1) (v:=.string e.pack) rfl;have e2:=HG3.o.cell (i:=2) (v:=.string e.text) rfl;have e3:=HG3.o.cell (i:=3) (v:=.slice ao e.old.length co) rfl;have e4:=HG3.o.cell (i:=4) (v:=.slice af e.fresh.length cf) rfl;have el:=HG3.o.lt;go_wp2_with (fail)
 refine (HC2.o w3 HW3.o).mono ?_;rintro r w4 ⟨rfl,hb4⟩;have HW4:=lH (zA HW3.o hb4);have HG4:=lH (HG3.o.below hb4);clear hb4 HC2 HW3 HG3;clear e0 e1 e2 e3 e4 el;go_upto_region 5 with (fail)
 refine wp_region_noPanic (zEh 18 (QV [.agg #[.int .i64 e.kind,.string e.pack,.string e.text,.slice ao e.old.length co,.slice af e.fresh.length cf],.int .i64 E,.agg #[.int .i64 e.kind,.string e.pack,.string e.text,.slice ao e.old.length co,.slice af e.fresh.length cf],.int .i64 E,.bool true,.bool true,.string S,.string S,.bool true,.bool true,.bool true,.int .i64 E,.int .i64 E,.bool true,.bool true,.bool true,.bool true,.bool true]) zAs (by kernel_rfl) (fun _ _ _ h=>h) (by kernel_rfl) (fun i v w w' h k=>h) ?_ ?_)
 ·show AllQ _ _ _ _ _ _ _ 0 (_::_)
  refine AllQ.step ?_ ?_
  ·intro fa vals w5 hf hbw hn
   exact ⟨(fun _ _ e=>by cases e),fun K hK=>zTh rfl ((hf.out 1 (by kernel_rfl)).trans rfl) (HG4.o.below hbw) (hK.out _ _ (zAh _) rfl)⟩
  refine AllQ.step ?_ ?_
  ·intro fa vals w5 hf hbw hn
   exact ⟨(fun _ _ e=>by cases e),fun K hK=>zBs (vs:=#[.agg #[.int .i64 e.kind,.string e.pack,.string e.text,.slice ao e.old.length co,.slice af e.fresh.length cf]]) rfl rfl (by simp only [List.map_toArray,List.map_cons,List.map_nil];rw [((hf.at_ 0 21 (by decide) rfl).trans ((hn 0 (by decide)).eq rfl))]) (enters_of Tryz.func21 (by kernel_rfl) rfl) ((HK1.o w5 (zA HW4.o hbw)).mono fun e w6 h=>⟨_,h.1,hK.out _ _ h.2 rfl⟩)⟩
  refine AllQ.step ?_ ?_
  ·intro fa vals w5 hf hbw hn
   exact ⟨(fun _ _ e=>by cases e),fun K hK=>zTh rfl ((hf.out 1 (by kernel_rfl)).trans rfl) (HG4.o.below hbw) (hK.out _ _ (zAh _) rfl)⟩
  refine AllQ.step ?_ ?_
  ·intro fa vals w5 hf hbw hn
   exact ⟨(fun _ _ e=>by cases e),fun K hK=>zBs (vs:=#[.agg #[.int .i64 e.kind,.string e.pack,.string e.text,.slice ao e.old.length co,.slice af e.fresh.length cf]]) rfl rfl (by simp only [List.map_toArray,List.map_cons,List.map_nil];rw [((hf.at_ 2 23 (by decide) rfl).trans ((hn 2 (by decide)).eq rfl))]) (enters_of Tryz.func22 (by kernel_rfl) rfl) ((HK2.o w5 (zA HW4.o hbw)).mono fun e w6 h=>⟨_,h.1,hK.out _ _ h.2 rfl⟩)⟩
  refine AllQ.step ?_ ?_
  ·intro fa vals w5 hf hbw hn
   exact ⟨(fun _ _ e=>by cases e),fun K hK=>yCo rfl ((hf.at_ 1 22 (by decide) rfl).trans ((hn 1 (by decide)).eq rfl)) ((hf.at_ 3 24 (by decide) rfl).trans ((hn 3 (by decide)).eq rfl)) (beq_self_eq_true E) (hK.out _ _ (zAh _) rfl)⟩
  refine AllQ.step ?_ ?_
  ·intro fa vals w5 hf hbw hn
   exact ⟨(fun _ _ e=>by cases e),fun K hK=>zEl rfl ((hf.at_ 4 25 (by decide) rfl).trans ((hn 4 (by decide)).eq rfl)) (hK.out _ _ (zAh _) rfl)⟩
  refine AllQ.step ?_ ?_
  ·intro fa vals w5 hf hbw hn
   exact ⟨(fun g b e=>by cases e;exact ⟨by decide,⟨_,rfl⟩,(hn 5 (by decide)).eq rfl⟩),fun K hK=>zEl rfl ((hf.out 3 (by kernel_rfl)).trans rfl) (hK.out _ _ (zAh _) rfl)⟩
  refine AllQ.step ?_ ?_
  ·intro fa vals w5 hf hbw hn
   exact ⟨(fun g b e=>by cases e;exact ⟨by decide,⟨_,rfl⟩,(hn 5 (by decide)).eq rfl⟩),fun K hK=>zEl rfl ((hf.out 5 (by kernel_rfl)).trans rfl) (hK.out _ _ (zAh _) rfl)⟩
  refine AllQ.step ?_ ?_
  ·intro fa vals w5 hf hbw hn
   exact ⟨(fun g b e=>by cases e;exact ⟨by decide,⟨_,rfl⟩,(hn 5 (by decide)).eq rfl⟩),fun K hK=>yEf rfl ((hf.at_ 6 27 (by decide) rfl).trans ((hn 6 (by decide)).eq rfl)) ((hf.at_ 7 28 (by decide) rfl).trans ((hn 7 (by decide)).eq rfl)) (beq_self_eq_true _) (hK.out _ _ (zAh _) rfl)⟩
  refine AllQ.step ?_ ?_
  ·intro fa vals w5 hf hbw hn
   exact ⟨(fun _ _ e=>by cases e),fun K hK=>zSc rfl ((hf.at_ 5 26 (by decide) rfl).trans ((hn 5 (by decide)).eq rfl)) ((hf.at_ 8 29 (by decide) rfl).trans ((hn 8 (by decide)).eq rfl)) (hK.out _ _ (zAh _) rfl)⟩
  refine AllQ.step ?_ ?_
  ·intro fa vals w5 hf hbw hn
   exact ⟨(fun _ _ e=>by cases e),fun K hK=>zEl rfl ((hf.at_ 9 30 (by decide) rfl).trans ((hn 9 (by decide)).eq rfl)) (hK.out _ _ (zAh _) rfl)⟩
  refine AllQ.step ?_ ?_
  ·intro fa vals w5 hf hbw hn
   exact ⟨(fun g b e=>by cases e;exact ⟨by decide,⟨_,rfl⟩,(hn 10 (by decide)).eq rfl⟩),fun K hK=>zEl rfl ((hf.out 4 (by kernel_rfl)).trans rfl) (hK.out _ _ (zAh _) rfl)⟩
  refine AllQ.step ?_ ?_
  ·intro fa vals w5 hf hbw hn
   exact ⟨(fun g b e=>by cases e;exact ⟨by decide,⟨_,rfl⟩,(hn 10 (by decide)).eq rfl⟩),fun K hK=>zEl rfl ((hf.out 6 (by kernel_rfl)).trans rfl) (hK.out _ _ (zAh _) rfl)⟩
  refine AllQ.step ?_ ?_
  ·intro fa vals w5 hf hbw hn
   exact ⟨(fun g b e=>by cases e;exact ⟨by decide,⟨_,rfl⟩,(hn 10 (by decide)).eq rfl⟩),fun K hK=>yCo rfl ((hf.at_ 11 32 (by decide) rfl).trans ((hn 11 (by decide)).eq rfl)) ((hf.at_ 12 33 (by decide) rfl).trans ((hn 12 (by decide)).eq rfl)) (beq_self_eq_true E) (hK.out _ _ (zAh _) rfl)⟩
  refine AllQ.step ?_ ?_
  ·intro fa vals w5 hf hbw hn
   exact ⟨(fun _ _ e=>by cases e),fun K hK=>zSc rfl ((hf.at_ 10 31 (by decide) rfl).trans ((hn 10 (by decide)).eq rfl)) ((hf.at_ 13 34 (by decide) rfl).trans ((hn 13 (by decide)).eq rfl)) (hK.out _ _ (zAh _) rfl)⟩
  refine AllQ.step ?_ ?_
  ·intro fa vals w5 hf hbw hn
   exact ⟨(fun _ _ e=>by cases e),fun K hK=>zEl rfl ((hf.at_ 14 35 (by decide) rfl).trans ((hn 14 (by decide)).eq rfl)) (hK.out _ _ (zAh _) rfl)⟩
  refine AllQ.step ?_ ?_
  ·intro fa vals w5 hf hbw hn
   exact ⟨(fun g b e=>by cases e;exact ⟨by decide,⟨_,rfl⟩,(hn 15 (by decide)).eq rfl⟩),fun K hK=>zBs (vs:=#[]) rfl rfl (by simp) (enters_of Tryz.func10 (by kernel_rfl) rfl) ((zKs w5).mono fun e w6 h=>⟨_,h.1,hK.out _ _ h.2 rfl⟩)⟩
  refine AllQ.step ?_ ?_
  ·intro fa vals w5 hf hbw hn
   exact ⟨(fun _ _ e=>by cases e),fun K hK=>zSc rfl ((hf.at_ 15 36 (by decide) rfl).trans ((hn 15 (by decide)).eq rfl)) ((hf.at_ 16 37 (by decide) rfl).trans ((hn 16 (by decide)).eq rfl)) (hK.out _ _ (zAh _) rfl)⟩
  exact trivial
 intro vals W1 hbw hr;have e17:vals 17=.bool true:=(hr 17 (by decide)).eq rfl;refine zJa (h:=by simp only [fullR,dstR,List.getElem?_toArray,List.getElem?_cons_succ,List.getElem?_cons_zero,Option.bind_some,Act.put,List.setIfInBounds_toArray,List.set_cons_zero,List.set_cons_succ,e17];rfl) ?_;clear hr e17;generalize vals 0=q0;generalize vals 1=q1;generalize vals 2=q2;generalize vals 3=q3;generalize vals 4=q4;generalize vals 5=q5;generalize vals 6=q6;generalize vals 7=q7;generalize vals 8=q8;generalize vals 9=q9;generalize vals 10=q10
 generalize vals 11=q11;generalize vals 12=q12;generalize vals 13=q13;generalize vals 14=q14;generalize vals 15=q15;generalize vals 16=q16;clear vals;have HF:=lH (zA HW4.o hbw);clear hbw HW4 HG4 HK1 HK2;go_wp2;refine NoPanic.normal ?_;go_wp2;go_ret;exact ⟨rfl,HF.o⟩
end Go.Proofs.YtfkjfdbjhlmjcaaGreatDoor
