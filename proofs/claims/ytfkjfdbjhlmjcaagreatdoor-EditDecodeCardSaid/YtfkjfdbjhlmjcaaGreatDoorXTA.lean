/- A range over an iterator that hands out arguments of which a relation tells (an iterator. -/
import Derived.Test.YtfkjfdbjhlmjcaaGreatDoorXG4
import Derived.Sort.LoopGhostIn
set_option maxRecDepth 100000
set_option maxHeartbeats 16000000
namespace Go.Proofs.YtfkjfdbjhlmjcaaGreatDoor
open Go.RowKit
variable {F:Fence} {n:Nat} {P:Program}
def IterR (F:Fence) (n:Nat) (P:Program) (gf:Nat) (lb:Array Value) (N:Nat) (Arg:Nat→Array Value→World→Prop) (Kp:World→World→Prop) (Ab:World→World→Prop) (w:World):Prop:=
  ∀(l:Nat) (J Jx:Nat→World→Prop) (W:World),Below w.heap.size w W→(∀k A B,J k A→Ab A B→J k B)→(∀k A B,Jx k A→Ab A B→Jx k B) →
    (∀k,k<N→∀args W1,J k W1→Arg k args W1→YieldAt F (n - 1) P l args W1 fun e W'=>
      (e=.returned (.bool true)∧J (k+1) W'∧Kp W1 W')∨(e=.returned (.bool false)∧Jx (k+1) W')) →
    J 0 W →
    CallsIn F n P gf (#[.func (.yield l) #[] #[]]++lb) W fun e W'=>(∃v,e=.returned v)∧(J N W'∨∃k,k≤N∧Jx k W')
def iterPostR (B:Nat) (Kp:World→World→Prop) (I:Nat→World→Prop) (Ix:Code→Nat→World→Prop) (k:Nat) (W:World):Exit→Act→World→Prop
  | .normal,_,W'=>KeepsFrom B W W'∧Kp W W'∧I k W'
  | .ret,_,W'=>KeepsFrom B W W'∧Ix .ret k W'
  | .exit id,_,W'=>KeepsFrom B W W'∧Ix (.exit id) k W'
  | .goto t,_,W'=>KeepsFrom B W W'∧Ix (.goto t) k W'
  | .panic _,_,_=>False
  | .outgrown,_,_=>False
theorem zTj {g:Operand} {ps:Array Tmp} {assign body:Code} {Q:Exit→Act→World→Prop} {a:Act} {w:World}
  (hro:F.round=none) (h1:1≤n) {gf:Nat} {lb:Array Value} (hg:a.eval g=.func (.func gf) #[] lb) (hFg:F.fn gf) (eg:∀args w,(callFunc gf args).run P w=.ok (.enter gf args) w)
  {N:Nat} {Arg:Nat→Array Value→World→Prop} {Kp Ab:World→World→Prop} {w0:World} (hseq:IterR F (n - 1) P gf lb N Arg Kp Ab w0) (hKt:∀a b c,Kp a b→Kp b c→Kp a c) (hKb:∀(W:World) (o o':Obj),W.heap[w.heap.size+1]?=some o→o.isCells=false→o.isWalk=false→Kp W (W.putObj (w.heap.size+1) o')) (hb0:Bw w0 w)
  (hps:∀k args W,Arg k args W→args.size=ps.size)
  (I:Nat→World→Prop) (Ix:Code→Nat→World→Prop) (hI:OwnFrom w.heap.size I) (hIx:∀c,OwnFrom w.heap.size (Ix c))
  (hAb:∀A B,Ab A B→∀(k:Nat) (o:Obj),w.heap.size≤k→A.heap[k]?=some o→o.isCells=false→B.heap[k]?=some o)
  (hIA:∀k A B,I k A→Ab A B→I k B) (hIxA:∀c k A B,Ix c k A→Ab A B→Ix c k B)
  (h0:I 0 w) (Ax:Nat→Act→World→Prop) (hAx:∀k a',OwnFrom w.heap.size (fun (_:Unit) W=>Ax k a' W))
  (hassign:∀(l:Nat) (k:Nat) (_:k<N) (args:Array Value) (W:World) (K:Act→World→Prop),I k W→Arg k args W→(∀a' W',KeepsFrom w.heap.size W W'→Kp W W'→I k W'→Ax k a' W'→K a' W') →
   assign.wpIn (F.inRound l) (n - 1 - 1) P (Exit.then K (fun _ _ _=>False)) { tmps:=(ps.zip args).foldl (fun t (p,v)=>t.setIfInBounds p v) a.tmps,defers:=[] } W)
  (hbody:∀(l:Nat) (k:Nat) (_:k<N) (a':Act) (W:World),I k W→Ax k a' W→body.wpIn (F.inRound l) (n - 1 - 1) P (iterPostR w.heap.size Kp I Ix (k+1) W) a' W)
  (hdone:∀(D:Nat) (W:World),w.heap.size≤D→I N W→W.heap[D]?=some (.deferred (some []))→Q .normal { a with defers:={ target:=.collected D,args:=#[] }::a.defers } W)
  (hstop:∀(D:Nat) (c:Code) (k:Nat) (W:World),w.heap.size≤D→k≤N→Ix c k W→W.heap[D]?=some (.deferred (some []))→c.wpIn F n P Q { a with defers:={ target:=.collected D,args:=#[] }::a.defers } W) :
  (Code.rangeFunc g ps assign body).wpIn F n P Q a w:=by
 refine wpIn_rangeFunc fun fn hfn=>?_;rw [hro];generalize hrec:(fun (st:LoopState) (pe:Option Code)=>({ state:=st,pending:=pe,fn,tmps:=a.tmps,params:=ps,assign,body,defers:=w.heap.size }:Loop))=rec;have hr0:∀st pe,({ state:=st,pending:=pe,fn,tmps:=a.tmps,params:=ps,assign,body,defers:=w.heap.size }:Loop)=rec st pe:=fun st pe=>by rw [←hrec]
 generalize hW1:(w.alloc (.deferred (some []))).alloc (.loop (rec .ready none))=W1;have hsz1:W1.heap.size=w.heap.size+2:=by rw [←hW1];simp
 have hL1:W1.heap[w.heap.size+1]?=some (.loop (rec .ready none)):=by
  rw [←hW1];have:=World.alloc_heap_new (w.alloc (.deferred (some []))) (.loop (rec .ready none));rwa [World.size_alloc] at this
 have hK1:W1.heap[w.heap.size]?=some (.deferred (some [])):=by
  rw [←hW1];exact (Below.heap_alloc _ _ _ (by simp)).trans (World.alloc_heap_new w _)
 have hI1:I 0 W1:=by rw [←hW1];exact hI.alloc _ (hI.alloc _ h0)
 have hb1:Bw w0 W1:=by
  rw [←hW1];exact hb0.trans ((((Below.refl _ w).alloc (Nat.le_refl _) _).alloc (by simp) _).mono hb0.size)
 refine ⟨w.heap.size+1,[{ target:=.collected w.heap.size,args:=#[] }],W1,{ target:=.fn (.func gf) lb,args:=#[.func (.yield (w.heap.size+1)) #[] #[]] },W1,gf,
  #[.func (.yield (w.heap.size+1)) #[] #[]]++lb,W1,?_,?_,?_,?_,fun _=>h1,?_⟩
 ·rw [←hW1,←hr0];exact run_enterLoop_outer _ _ _ _ _
 ·simp only [resolve,hg]
  simp [go_sem]
 ·intro f' hf';simp [Target.leads] at hf';subst hf';exact hFg
 ·simp [invoke,go_sem,eg]
 ·refine (hseq (w.heap.size+1)
   (fun k W=>I k W∧W.heap[w.heap.size+1]?=some (.loop (rec .ready none))∧W.heap[w.heap.size]?=some (.deferred (some [])))
   (fun k W=>∃c,Ix c k W∧W.heap[w.heap.size+1]?=some (.loop (rec .done (some c)))∧W.heap[w.heap.size]?=some (.deferred (some [])))
   W1 hb1
   (fun k A B hs hab=>⟨hIA k A B hs.1 hab,hAb A B hab _ _ (by omega) hs.2.1 rfl,hAb A B hab _ _ (by omega) hs.2.2 rfl⟩)
   (fun k A B hs hab=>by
    obtain ⟨c,hc,hl,hk⟩:=hs
    exact ⟨c,hIxA c k A B hc hab,hAb A B hab _ _ (by omega) hl rfl,hAb A B hab _ _ (by omega) hk rfl⟩)
   ?_ ⟨hI1,hL1,hK1⟩).mono ?_
  ·rintro k hk args W ⟨hi,hl,hd⟩ harg
   have hy:=run_yield (P:=P) (args:=args) hl (by rw [←hr0];exact hps k args W harg);rw [←hr0] at hy;refine ⟨fn,_,assign,body,hy,roundIn_of_wpIn hfn (hassign _ k hk args W _ hi harg ?_)⟩;clear hy;intro a' Wa hkfa hkpa hia hax;have hla:=hkfa.same _ _ (by omega) hl rfl;have hda:=hkfa.same _ _ (Nat.le_refl _) hd rfl;have hlt:w.heap.size+1<Wa.heap.size:=(Array.getElem?_eq_some_iff.1 hla).1;refine ⟨_,run_beginRound hla (by rw [←hr0]),?_⟩
   have hl2:(Wa.putObj (w.heap.size+1) (.loop { rec .ready none with state:=.busy })).heap[w.heap.size+1]?=some (.loop { rec .ready none with state:=.busy }):=World.putObj_heap_same hlt;have hd2:(Wa.putObj (w.heap.size+1) (.loop { rec .ready none with state:=.busy })).heap[w.heap.size]?=some (.deferred (some [])):=(World.putObj_heap_other (by omega)).trans hda;have hw2:=hKb Wa _ (.loop { rec .ready none with state:=.busy }) hla rfl rfl
   refine wpIn_mono (hbody _ k hk a' _ (hI.putObj _ hia (by omega) hla rfl) ((hAx k a').putObj (s:=()) _ hax (by omega) hla rfl)) ?_
   have fin:∀(jump:Option Code) (W3:World),KeepsFrom w.heap.size (Wa.putObj (w.heap.size+1) (.loop { rec .ready none with state:=.busy })) W3 →
     (Instr.endRound (w.heap.size+1) jump).run P W3=.ok (.bool jump.isNone) (W3.putObj (w.heap.size+1) (.loop (rec (if jump.isNone then .ready else .done) jump))) ∧
     (∃o,W3.heap[w.heap.size+1]?=some (.loop o)) ∧
     (W3.putObj (w.heap.size+1) (.loop (rec (if jump.isNone then .ready else .done) jump))).heap[w.heap.size+1]?=some (.loop (rec (if jump.isNone then .ready else .done) jump)) ∧
     (W3.putObj (w.heap.size+1) (.loop (rec (if jump.isNone then .ready else .done) jump))).heap[w.heap.size]?=some (.deferred (some [])):=fun jump W3 hk3=>by
    have hl3:=hk3.same _ _ (by omega) hl2 rfl;have:=run_endRound (P:=P) jump hl3;rw [←hr0] at this ⊢;exact ⟨this,⟨_,hl3⟩,World.putObj_heap_same (Array.getElem?_eq_some_iff.1 hl3).1,(World.putObj_heap_other (by omega)).trans (hk3.same _ _ (Nat.le_refl _) hd2 rfl)⟩
   rintro e a3 W3 hp
   cases e with
   | normal=>
    obtain ⟨hk3,hkp3,hi3⟩:=hp;obtain ⟨hr,⟨o,hl3⟩,hl4,hd4⟩:=fin none W3 hk3;exact ⟨_,_,hr,.inl ⟨rfl,⟨hI.putObj _ hi3 (by omega) hl3 rfl,hl4,hd4⟩,hKt _ _ _ hkpa (hKt _ _ _ (hKt _ _ _ hw2 hkp3) (hKb _ _ _ hl3 rfl rfl))⟩⟩
   | ret=>
    obtain ⟨hk3,hi3⟩:=hp;obtain ⟨hr,⟨o,hl3⟩,hl4,hd4⟩:=fin (some .ret) W3 hk3;exact ⟨_,_,hr,.inr ⟨rfl,.ret,(hIx _).putObj _ hi3 (by omega) hl3 rfl,hl4,hd4⟩⟩
   | exit id=>
    obtain ⟨hk3,hi3⟩:=hp;obtain ⟨hr,⟨o,hl3⟩,hl4,hd4⟩:=fin (some (.exit id)) W3 hk3;exact ⟨_,_,hr,.inr ⟨rfl,.exit id,(hIx _).putObj _ hi3 (by omega) hl3 rfl,hl4,hd4⟩⟩
   | goto t=>
    obtain ⟨hk3,hi3⟩:=hp;obtain ⟨hr,⟨o,hl3⟩,hl4,hd4⟩:=fin (some (.goto t)) W3 hk3;exact ⟨_,_,hr,.inr ⟨rfl,.goto t,(hIx _).putObj _ hi3 (by omega) hl3 rfl,hl4,hd4⟩⟩
   | panic ch=>exact hp.elim
   | outgrown=>exact hp.elim
  ·rintro e W2 ⟨⟨v,rfl⟩,(⟨hi,hl,hd⟩|⟨k,hk,c,hi,hl,hd⟩)⟩
   ·exact ⟨none,_,by have:=run_endLoop (P:=P) hl (by rw [←hr0];simp);rw [←hr0] at this;exact this,hdone _ _ (Nat.le_refl _) (hI.putObj _ hi (by omega) hl rfl) ((World.putObj_heap_other (by omega)).trans hd)⟩
   ·exact ⟨some c,_,by have:=run_endLoop (P:=P) hl (by rw [←hr0];simp);rw [←hr0] at this;exact this,hstop _ c k _ (Nat.le_refl _) hk ((hIx c).putObj _ hi (by omega) hl rfl) ((World.putObj_heap_other (by omega)).trans hd)⟩
structure KpX (X:List Nat) (A B:World):Prop where
  size:A.heap.size≤B.heap.size
  block:∀(k:Nat) (cs:Array Value) (t:TypeId) (m:Nat×Nat),k∉X→A.heap[k]?=some (.cells cs t m)→B.heap[k]?=some (.cells cs t m)
theorem KpX.refl (X:List Nat) (A:World):KpX X A A:=⟨Nat.le_refl _,fun _ _ _ _ _ h=>h⟩
theorem KpX.trans {X:List Nat} {A B C:World} (h:KpX X A B) (k:KpX X B C):KpX X A C:=⟨Nat.le_trans h.size k.size,fun b cs t m hb ho=>k.block b cs t m hb (h.block b cs t m hb ho)⟩
theorem KpX.putObj {X:List Nat} (W:World) (k:Nat) (o o':Obj) (ho:W.heap[k]?=some o) (hc:o.isCells=false):KpX X W (W.putObj k o'):=by
 refine ⟨by simp [World.putObj],fun b cs t m _ hb=>?_⟩;have hne:b≠k:=fun e=>by subst e;rw [ho] at hb;cases hb;cases hc
 exact (World.putObj_heap_other hne).trans hb
theorem KpX.below {X:List Nat} {A B:World} (h:Bw A B):KpX X A B:=⟨h.size,fun b _ _ _ _ hb=>(h.block b (Array.getElem?_eq_some_iff.1 hb).1).trans hb⟩
theorem KpX.set {X:List Nat} {A B:World} (h:KpX X A B) {p:Addr} (hp:p.block∈X) (u:Value):KpX X A (B.setCell p u):=
 ⟨by simpa [World.setCell] using h.size,fun b cs t m hb ho=>by rw [Below.heap_setCell _ _ _ _ (fun e=>hb (by rw [e];exact hp))];exact h.block b cs t m hb ho⟩
theorem KpX.cell {X:List Nat} {A B:World} (h:KpX X A B) {b o:Nat} {v:Value} (hb:b∉X) (hc:A.cell? ⟨b,o,none⟩=some v):B.cell? ⟨b,o,none⟩=some v:=by
 cases hA:A.heap[b]? with
 | none=>simp [World.cell?,hA] at hc
 | some ob=>
  cases ob with
  | cells cs t m=>
   have hB:=h.block b cs t m hb hA;simp only [World.cell?,hA,hB] at hc ⊢
   exact hc
  | _=>simp [World.cell?,hA] at hc
theorem KpX.box {X:List Nat} {A B:World} (h:KpX X A B) {b:Nat} {cs:Array Value} {t:TypeId} {m:Nat×Nat} (hb:b∉X) (hA:A.heap[b]?=some (.cells cs t m)):B.heap[b]?=some (.cells cs t m):=h.block b cs t m hb hA
theorem IsRow.kp {w w':World} {size:Nat} {v:Value} {n:Nat} {xs:List Value} {X:List Nat} (h:IsRow w size v n xs) (m:KpX X w w') (hx:0<n→∀b,v.ownBlock=some b→b∉X):IsRow w' size v n xs:=by
 obtain ⟨hl,a,cap,rfl,h1,h2,h3⟩:=h;refine ⟨hl,a,cap,rfl,h1,h2,fun hn=>?_⟩;obtain ⟨b,o,rfl,hb,hc⟩:=h3 hn;exact ⟨b,o,rfl,Nat.lt_of_lt_of_le hb m.size,fun j u hj=>m.cell (hx hn b rfl) (hc j u hj)⟩
mutual
theorem Reads.kp {w w':World} {X:List Nat} (m:KpX X w w'):∀{d:Tree} {v:Value},Reads w X d v→Reads w' X d v
 | .leaf _,_,h=>by rw [Reads] at h ⊢;exact h
 | .row _ _ _,_,h=>by
  rw [Reads] at h ⊢;obtain ⟨xs,h1,h2,h3⟩:=h;exact ⟨xs,h1.kp m h2,h2,ReadsL.kp m h3⟩
theorem ReadsL.kp {w w':World} {X:List Nat} (m:KpX X w w'):∀{ds:List Tree} {xs:List Value},ReadsL w X ds xs→ReadsL w' X ds xs
 | [],_,h=>by rw [ReadsL] at h ⊢;exact h
 | _::_,_,h=>by
  rw [ReadsL] at h ⊢;obtain ⟨x,rest,e,h1,h2⟩:=h;exact ⟨x,rest,e,Reads.kp m h1,ReadsL.kp m h2⟩
end
structure AbN (n₀:Nat) (A B:World):Prop where
  os:B.os=A.os
  tape:B.tape=A.tape
  output:B.output=A.output
  size:A.heap.size≤B.heap.size
  block:∀(k:Nat) (o:Obj),A.heap[k]?=some o→(k<n₀∨o.isCells=false)→B.heap[k]?=some o
theorem AbN.refl (n₀:Nat) (A:World):AbN n₀ A A:=⟨rfl,rfl,rfl,Nat.le_refl _,fun _ _ h _=>h⟩
theorem AbN.trans {n₀:Nat} {A B C:World} (h:AbN n₀ A B) (k:AbN n₀ B C):AbN n₀ A C:=⟨k.os.trans h.os,k.tape.trans h.tape,k.output.trans h.output,Nat.le_trans h.size k.size,fun b o hb ho=>k.block b o (h.block b o hb ho) ho⟩
theorem AbN.alloc {n₀:Nat} (A:World) (o:Obj):AbN n₀ A (A.alloc o):=⟨rfl,rfl,rfl,by simp,fun b x hb _=>(Below.heap_alloc A o b (Array.getElem?_eq_some_iff.1 hb).1).trans hb⟩
theorem AbN.set {n₀:Nat} {A B:World} (h:AbN n₀ A B) {p:Addr} (hp:n₀≤p.block) {cs:Array Value} {t:TypeId} {m:Nat×Nat} (hb:B.heap[p.block]?=some (.cells cs t m)) (u:Value):AbN n₀ A (B.setCell p u):=by
 refine ⟨h.os,h.tape,h.output,by simpa [World.setCell] using h.size,fun b o ho hc=>?_⟩;have h1:=h.block b o ho hc
 have hne:b≠p.block:=fun e=>by
  subst e
  rcases hc with hc|hc
  ·omega
  ·rw [hb] at h1;cases h1;cases hc
 exact (Below.heap_setCell B p u b hne).trans h1
theorem AbN.grown {n₀:Nat} {A B C:World} (h:AbN n₀ A B) {row:Option Nat} (g:B.grownBy C row) (hr:∀b,row=some b→n₀≤b∧∃cs t m,B.heap[b]?=some (.cells cs t m)):AbN n₀ A C:=by
 refine ⟨g.os.trans h.os,g.tape.trans h.tape,g.output.trans h.output,Nat.le_trans h.size g.size,fun b o ho hc=>?_⟩;have h1:=h.block b o ho hc;refine (g.block b (Array.getElem?_eq_some_iff.1 h1).1 fun e=>?_).trans h1;obtain ⟨h2,cs,t,m,h3⟩:=hr b e.symm
 rcases hc with hc|hc
 ·omega
 ·rw [h3] at h1;cases h1;cases hc
theorem AbN.below {n₀:Nat} {A B:World} (h:AbN n₀ A B) (hn:n₀≤A.heap.size):Below n₀ A B:=by
 refine ⟨h.os,h.tape,h.output,h.size,fun k hk=>?_⟩;have hk':k<A.heap.size:=Nat.lt_of_lt_of_le hk hn;rw [h.block k _ (Array.getElem?_eq_getElem hk') (.inl hk),Array.getElem?_eq_getElem hk']
theorem AbN.box {n₀:Nat} {A B:World} (h:AbN n₀ A B) {b:Nat} (hb:b<n₀) {o:Obj} (ho:A.heap[b]?=some o):B.heap[b]?=some o:=h.block b o ho (.inl hb)
theorem zDt (k:Int):(1≤k∧k≤15)∨shapeK k=none:=by
 by_cases h:1≤k∧k≤15
 ·exact .inl h
 ·right
  unfold shapeK
  repeat (rw [if_neg (by omega)])
theorem zJu {k:Int} (h:shapeK k=none):k<1∨15<k:=by
 by_cases h1:1≤k∧k≤15
 ·exfalso
  have:k=1∨k=2∨k=3∨k=4∨k=5∨k=6∨k=7∨k=8∨k=9∨k=10∨k=11∨k=12∨k=13∨k=14∨k=15:=by omega
  rcases this with rfl|rfl|rfl|rfl|rfl|rfl|rfl|rfl|rfl|rfl|rfl|rfl|rfl|rfl|rfl<;>cases h
 ·omega
def shapeV (k:Int):Value:=match shapeK k with
 | some (a,b,c)=>.tuple #[.agg #[.int .i64 a,.int .i64 b,.int .i64 c],.bool true]
 | none=>.tuple #[.agg #[.int .i64 0,.int .i64 0,.int .i64 0],.bool false]
def rshapeV (k:Int):Value:=match shapeK k with
 | some (a,b,c)=>.tuple #[.agg #[.bool (decide (1≤a)),.bool (decide (2≤a)),.bool (decide (1≤b)),.bool (decide (2≤b)),.int .i64 c],.bool true]
 | none=>.tuple #[.agg #[.bool false,.bool false,.bool false,.bool false,.int .i64 0],.bool false]
theorem zRk (k:Int) (w:World):Calls Tryz.prog 206 #[.int .i64 k] w fun e w'=>e=.returned (shapeV k)∧Bw w w':=by
 rcases zDt k with h|h
 ·have:k=1∨k=2∨k=3∨k=4∨k=5∨k=6∨k=7∨k=8∨k=9∨k=10∨k=11∨k=12∨k=13∨k=14∨k=15:=by omega
  clear h
  rcases this with rfl|rfl|rfl|rfl|rfl|rfl|rfl|rfl|rfl|rfl|rfl|rfl|rfl|rfl|rfl
  all_goals
   go_enter Tryz.func206,Tryz.ntmps206
   go_wp2;refine bodyPost_ret (v:=shapeV _) ?_ rfl ⟨rfl,zAa _ _⟩;simp [results,Tryz.results206,go_sem]
   rfl
 ·have HS:Hid (shapeV k=.tuple #[.agg #[.int .i64 0,.int .i64 0,.int .i64 0],.bool false]):=by show _=_;rw [shapeV,h]
  have:=zJu h;have q1:(k==1)=false:=by rw [beq_eq_false_iff_ne];omega
  have q2:(k==2)=false:=by rw [beq_eq_false_iff_ne];omega
  have q3:(k==3)=false:=by rw [beq_eq_false_iff_ne];omega
  have q4:(k==4)=false:=by rw [beq_eq_false_iff_ne];omega
  have q5:(k==5)=false:=by rw [beq_eq_false_iff_ne];omega
  have q6:(k==6)=false:=by rw [beq_eq_false_iff_ne];omega
  have q7:(k==7)=false:=by rw [beq_eq_false_iff_ne];omega
  have q8:(k==8)=false:=by rw [beq_eq_false_iff_ne];omega
  have q9:(k==9)=false:=by rw [beq_eq_false_iff_ne];omega
  have q10:(k==10)=false:=by rw [beq_eq_false_iff_ne];omega
  have q11:(k==11)=false:=by rw [beq_eq_false_iff_ne];omega
  have q12:(k==12)=false:=by rw [beq_eq_false_iff_ne];omega
  have q13:(k==13)=false:=by rw [beq_eq_false_iff_ne];omega
  have q14:(k==14)=false:=by rw [beq_eq_false_iff_ne];omega
  have q15:(k==15)=false:=by rw [beq_eq_false_iff_ne];omega
  clear this h
  go_enter Tryz.func206,Tryz.ntmps206
  go_wp2;refine bodyPost_ret (v:=.tuple #[.agg #[.int .i64 0,.int .i64 0,.int .i64 0],.bool false]) (by simp [results,Tryz.results206,go_sem]) rfl ⟨by rw [HS.o],zAa _ _⟩
theorem zPi (k:Int) (w:World):Calls Tryz.prog 226 #[.int .i64 k] w fun e w'=>e=.returned (rshapeV k)∧Bw w w':=by
 rcases zDt k with h|h
 ·have:k=1∨k=2∨k=3∨k=4∨k=5∨k=6∨k=7∨k=8∨k=9∨k=10∨k=11∨k=12∨k=13∨k=14∨k=15:=by omega
  clear h
  rcases this with rfl|rfl|rfl|rfl|rfl|rfl|rfl|rfl|rfl|rfl|rfl|rfl|rfl|rfl|rfl
  all_goals
   go_enter Tryz.func226,Tryz.ntmps226
   go_wp2;refine bodyPost_ret (v:=rshapeV _) ?_ rfl ⟨rfl,zAa _ _⟩;simp [results,Tryz.results226,go_sem]
   rfl
 ·have HS:Hid (rshapeV k=.tuple #[.agg #[.bool false,.bool false,.bool false,.bool false,.int .i64 0],.bool false]):=by show _=_;rw [rshapeV,h]
  have:=zJu h;have q1:(k==1)=false:=by rw [beq_eq_false_iff_ne];omega
  have q2:(k==2)=false:=by rw [beq_eq_false_iff_ne];omega
  have q3:(k==3)=false:=by rw [beq_eq_false_iff_ne];omega
  have q4:(k==4)=false:=by rw [beq_eq_false_iff_ne];omega
  have q5:(k==5)=false:=by rw [beq_eq_false_iff_ne];omega
  have q6:(k==6)=false:=by rw [beq_eq_false_iff_ne];omega
  have q7:(k==7)=false:=by rw [beq_eq_false_iff_ne];omega
  have q8:(k==8)=false:=by rw [beq_eq_false_iff_ne];omega
  have q9:(k==9)=false:=by rw [beq_eq_false_iff_ne];omega
  have q10:(k==10)=false:=by rw [beq_eq_false_iff_ne];omega
  have q11:(k==11)=false:=by rw [beq_eq_false_iff_ne];omega
  have q12:(k==12)=false:=by rw [beq_eq_false_iff_ne];omega
  have q13:(k==13)=false:=by rw [beq_eq_false_iff_ne];omega
  have q14:(k==14)=false:=by rw [beq_eq_false_iff_ne];omega
  have q15:(k==15)=false:=by rw [beq_eq_false_iff_ne];omega
  clear this h
  go_enter Tryz.func226,Tryz.ntmps226
  go_wp2;refine bodyPost_ret (v:=.tuple #[.agg #[.bool false,.bool false,.bool false,.bool false,.int .i64 0],.bool false]) (by simp [results,Tryz.results226,go_sem]) rfl ⟨by rw [HS.o],zAa _ _⟩
end Go.Proofs.YtfkjfdbjhlmjcaaGreatDoor
namespace Go.Proofs.YtfkjfdbjhlmjcaaGreatDoor
open Go.RowKit Go.Shelf
attribute [local go_sem] Oper.semAt_some
section
variable {w:World} {B:Nat} {e:TypeId} {n cap:Nat} {ad:Option Addr} {xs:List Value} {u:Value}
theorem zJv (h:w.ownsRow B e 1 (.slice ad n cap) n xs) {i:Nat} (hi:xs[i]?=some u) :
  ∃g cur,ad=some ⟨g,0,none⟩∧w.cell? ⟨g,i,none⟩=some u∧B≤g∧g<w.heap.size∧w.frozen? ⟨g,i,none⟩=false∧n≤cap∧cap≤9223372036854775807∧w.heap[g]?=some (.cells cur e (0,0)):=by
 obtain ⟨hl,h2⟩:=h
 rcases h2 with ⟨hv,rfl⟩|⟨g,cap',cur,hv,hg,hh,hn,hc,hs,ht⟩
 ·have:xs=[]:=List.eq_nil_of_length_eq_zero (by omega)
  rw [this] at hi;cases hi
 ·injection hv with e1 e2 e3
  subst e1 e3;have hlt:=(Array.getElem?_eq_some_iff.1 hh).1;refine ⟨g,cur,rfl,?_,hg,hlt,?_,hn,by unfold maxLen at hc;omega,hh⟩
  ·have hix:i<xs.length:=(List.getElem?_eq_some_iff.1 hi).1
   rw [←ht,List.getElem?_take,if_pos (by omega)] at hi;have hi':cur[i]?=some u:=by rw [←Array.getElem?_toList];exact hi
   exact CBox.cell (B:=g) hh hi'
  ·exact CBox.frozen (B:=g) hh i
theorem yAs {g:Nat} (h:w.ownsRow B e 1 (.slice (some ⟨g,0,none⟩) (n+1) cap) (n+1) (xs++[u])) (hn:xs.length=n):w.ownsRow B e 1 (.slice (some ⟨g,0,none⟩) n cap) n xs:=by
 obtain ⟨hl,h2⟩:=h
 rcases h2 with ⟨hv,h0⟩|⟨g',cap',cur,hv,hg,hh,hn',hc,hs,ht⟩
 ·omega
 ·injection hv with e1 e2 e3
  injection e1 with e1
  injection e1 with e1
  subst e1 e3;refine ⟨by omega,.inr ⟨g,cap,cur,rfl,hg,hh,by omega,hc,hs,?_⟩⟩;have:=congrArg (List.take n) ht;rw [List.take_take,Nat.mul_one] at this;rw [Nat.mul_one,show min n (n+1)=n by omega] at *;rw [this,←hn,List.take_left]
theorem zTk {g:Nat} (h:w.ownsRow B e 1 (.slice (some ⟨g,0,none⟩) (n+1) cap) (n+1) (xs++[u])) (hn:xs.length=n) (u':Value):(w.setCell ⟨g,n,none⟩ u').ownsRow B e 1 (.slice (some ⟨g,0,none⟩) (n+1) cap) (n+1) (xs++[u']):=by
 obtain ⟨hl,h2⟩:=h
 rcases h2 with ⟨hv,h0⟩|⟨g',cap',cur,hv,hg,hh,hn',hc,hs,ht⟩
 ·omega
 ·injection hv with e1 e2 e3
  injection e1 with e1
  injection e1 with e1
  subst e1 e3;refine ⟨by simp [hn],.inr ⟨g,cap,cur.setIfInBounds n u',rfl,hg,zFb hh n u',hn',hc,by simpa using hs,?_⟩⟩;rw [Array.toList_setIfInBounds,Nat.mul_one] at *;have hlt:n<cur.toList.length:=by rw [Array.length_toList];omega
  rw [List.take_set];rw [ht];rw [List.set_append_right _ _ (by omega),hn,Nat.sub_self];rfl
end
theorem KpX.fresh {X:List Nat} {A B:World} (h:KpX X A B) {p:Addr} (hp:A.heap.size≤p.block) (u:Value):KpX X A (B.setCell p u):=
 ⟨by simpa [World.setCell] using h.size,fun b cs t m hb ho=>by
  have:=(Array.getElem?_eq_some_iff.1 ho).1
  rw [Below.heap_setCell _ _ _ _ (by omega)];exact h.block b cs t m hb ho⟩
theorem KpX.alloc {X:List Nat} {A B:World} (h:KpX X A B) (o:Obj):KpX X A (B.alloc o):=h.trans (KpX.below (zAa B o))
theorem KpX.grown {X:List Nat} {A B C:World} (h:KpX X A B) {row:Option Nat} (g:B.grownBy C row) (hr:∀b,row=some b→A.heap.size≤b):KpX X A C:=
 ⟨Nat.le_trans h.size g.size,fun b cs t m hb ho=>by
  have h1:=h.block b cs t m hb ho;have:=(Array.getElem?_eq_some_iff.1 ho).1
  exact (g.block b (Array.getElem?_eq_some_iff.1 h1).1 (fun e=>by have:=hr b e.symm;omega)).trans h1⟩
theorem zXi {X:List Nat} {w w':World} {B:Nat} {e:TypeId} {v:Value} {n:Nat} {xs:List Value} (h:w.ownsRow B e 1 v n xs) (m:KpX X w w') (hx:∀k,k∈X→k<B):w'.ownsRow B e 1 v n xs:=by
 obtain ⟨h1,h2⟩:=h;refine ⟨h1,?_⟩
 rcases h2 with h2|⟨g,cap,cur,h3,h4,h5,h6⟩
 ·exact .inl h2
 ·exact .inr ⟨g,cap,cur,h3,h4,m.block g _ _ _ (fun hk=>by have:=hx g hk;omega) h5,h6⟩
def flatR:List (List Ex)→List (Nat×Ex)
 | []=>[]
 | s::r=>preL s (r.length+2)++flatR r
theorem zMb (y:Ex) (s:List Ex) (r:List (List Ex)):flatR ((y::s)::r)=(r.length+2,y)::flatR (y.subs::s::r):=by
 rw [flatR,preL,zCc,flatR,flatR];simp [List.append_assoc]
theorem zRl (x:Ex):preN x 1=(1,x)::flatR [x.subs]:=by rw [zCc,flatR,flatR];simp
def nodeArg (x:Ex) (k:Nat) (args:Array Value) (W:World):Prop:=
  ∃(d:Nat) (y:Ex) (a:Option Addr) (c:Nat),(preN x 1)[k]?=some (d,y)∧args=#[.int .i64 d,exV y a c]∧y.subs.length≤c∧c≤9223372036854775807∧Reads W [] (subsT y.subs) (.slice a y.subs.length c)
theorem zTl {α:Type} {l:List α} {k:Nat} {x:α} {r:List α} (h:l.drop k=x::r):l[k]?=some x∧l.drop (k+1)=r∧k<l.length:=by
 have hk:k<l.length:=by
  rcases Nat.lt_or_ge k l.length with h'|h'
  ·exact h'
  ·rw [List.drop_eq_nil_of_le h'] at h;cases h
 rw [List.drop_eq_getElem_cons hk] at h
 injection h with h1 h2
 exact ⟨by rw [List.getElem?_eq_getElem hk,h1],h2,hk⟩
theorem zXj (x:Ex) (a:Option Addr) (c:Nat) (w:World):Calls Tryz.prog 183 #[exV x a c] w fun e w'=>
  e=.returned (.func (.func 205) #[] #[.pointer (some ⟨w.heap.size,0,none⟩)])∧w.alloc (.cells #[.int .i64 x.kind,.string x.name,.string x.more,.int .i64 x.num,.int .i64 x.den,.slice a x.subs.length c] 60)=w':=by
 unfold exV
 go_enter Tryz.func183,Tryz.ntmps183
 go_wp2;go_ret;exact ⟨rfl,rfl⟩
end Go.Proofs.YtfkjfdbjhlmjcaaGreatDoor
namespace Go.Proofs.YtfkjfdbjhlmjcaaGreatDoor
open Go.RowKit Go.Shelf
attribute [local go_sem] Oper.semAt_some
theorem yAt:(Tryz.prog.info? 58).map (fun i=>(i.zero,i.size,i.bytes))=some (some (.slice none 0 0),1,24):=by kernel_rfl
theorem zJw {w:World} {X:List Nat} {d:Tree}:∀{ds:List Tree} {xs:List Value},ReadsL w X (ds++[d]) xs→∃ys u,xs=ys++[u]∧ReadsL w X ds ys∧Reads w X d u
 | [],xs,h=>by
  obtain ⟨x,rest,rfl,h1,h2⟩:=ReadsL.inv h;rw [ReadsL] at h2;subst h2;exact ⟨[],x,rfl,ReadsL.nil _ _,h1⟩
 | e::ds,xs,h=>by
  obtain ⟨x,rest,rfl,h1,h2⟩:=ReadsL.inv h;obtain ⟨ys,u,rfl,h3,h4⟩:=zJw h2;exact ⟨x::ys,u,rfl,ReadsL.cons h1 h3,h4⟩
theorem zIj (w:World) (X:List Nat) (a:Option Addr) (c:Nat) (hc:c≤9223372036854775807):Reads w X (subsT []) (.slice a 0 c):=by
 rw [subsT,rowT,Reads];exact ⟨[],⟨by simp,a,c,rfl,Nat.zero_le _,by unfold maxLen;omega,fun h=>absurd h (Nat.lt_irrefl _)⟩,fun h=>absurd h (Nat.lt_irrefl _),by simp [ReadsL]⟩
theorem zDf (w:World) (B:Nat) (hB:B≤w.heap.size) (u:Value) (t:TypeId):(w.alloc (.cells #[u] t)).ownsRow B t 1 (.slice (some ⟨w.heap.size,0,none⟩) 1 1) 1 [u]:=
 ⟨rfl,.inr ⟨w.heap.size,1,#[u],rfl,hB,World.alloc_heap_new _ _,Nat.le_refl _,by unfold maxLen;omega,rfl,rfl⟩⟩
theorem zJx (x:Ex) (a:Option Addr) (c:Nat) (w:World) (Be:Nat) (X:List Nat) (hX:∀k,k∈X→k<w.heap.size) (hBe:Be∉X)
  (hbox:CBox w Be 60 #[.int .i64 x.kind,.string x.name,.string x.more,.int .i64 x.num,.int .i64 x.den,.slice a x.subs.length c]) (hr:Reads w X (subsT x.subs) (.slice a x.subs.length c)) (hc1:x.subs.length≤c) (hc2:c≤9223372036854775807) (hN:nodesN x≤4000000) :
  IterR Fence.wide 4 Tryz.prog 205 #[.pointer (some ⟨Be,0,none⟩)] (nodesN x) (nodeArg x) (KpX X) (AbN w.heap.size) w:=by
 intro l J Jx W hW hJ hJx hY h0;have hsz:=hW.size;have hbW:=hbox.below hW;have hrW:=hr.below hW;have hXW:Hid (∀k,k∈X→k<W.heap.size):=fun k hk=>Nat.lt_of_lt_of_le (hX k hk) hsz;obtain ⟨i0,hi,hz0,hz1,hz2⟩:=info_parts yAt;have HY:=lH hY;have HJ:=lH hJ;have HJx:=lH hJx;have HP:=lH (zRl x);have hlen:(preN x 1).length=nodesN x:=zJq x 1;have hpos:=zEc x;clear hY hJ hJx hW hbox hr;show CallsIn Fence.wide 4 Tryz.prog 205 #[.func (.yield l) #[] #[],.pointer (some ⟨Be,0,none⟩)] W _
 refine callsIn_of_wp Tryz.func205 rfl trivial ?_ rfl;simp only [Tryz.ntmps205,List.size_toArray,List.length_cons,List.length_nil,Nat.reduceAdd,Nat.reduceSub,Array.replicate_succ,Array.replicate_zero,List.push_toArray,List.append_toArray,List.nil_append,List.cons_append]
 have d0:=hbW.cell (i:=0) rfl;have d1:=hbW.cell (i:=1) rfl;have d2:=hbW.cell (i:=2) rfl;have d3:=hbW.cell (i:=3) rfl;have d4:=hbW.cell (i:=4) rfl;have d5:=hbW.cell (i:=5) rfl;have dl:=hbW.lt;have hy:=HY.o 0 (by omega) #[.int .i64 1,exV x a c] W h0 ⟨1,x,a,c,by rw [HP.o];rfl,rfl,hc1,hc2,hrW.fewer (fun _ h=>by cases h)⟩;obtain ⟨fn,tmps,assign,body,hy,hR⟩:=hy;unfold exV at hy
 gi_wp2
 refine hR.mono ?_;rintro e W3 (⟨rfl,hJ3,hk3⟩|⟨rfl,hJx3⟩)
 rotate_left
 ·gi_wp2
  refine bodyPost_ret (results_none rfl _ _ _) rfl ?_;exact ⟨⟨_,rfl⟩,.inr ⟨1,by omega,hJx3⟩⟩
 have hb3:CBox W3 Be 60 _:=hk3.box hBe hbW;have e5:=hb3.cell (i:=5) rfl;have el:=hb3.lt;clear hR hy d0 d1 d2 d3 d4 d5 dl hb3;have hO4:=zDf W3 W.heap.size hk3.size (.slice a x.subs.length c) 58;have hK4:=hk3.alloc (.cells #[.slice a x.subs.length c] 58);have hJ4:=HJ.o 1 W3 _ hJ3 (AbN.alloc W3 (.cells #[.slice a x.subs.length c] 58))
 gi_wp2
 generalize hw4:W3.alloc (.cells #[.slice a x.subs.length c] 58)=W4 at *;clear hw4 hJ3 hk3 e5 el
 gi_loopg [3,4] (2 * (nodesN x - 1)+1) (fun g ov _ wr=>∃(k:Nat) (st:List (List Ex)) (xs:List Value),wr.ownsRow W.heap.size 58 1 ov st.length xs∧Hid (ReadsL W X (st.reverse.map subsT) xs)∧KpX X W wr∧Hid ((preN x 1).drop k=flatR st)∧st.length≤k∧k≤nodesN x∧J k wr∧g=2 * (nodesN x - k)+st.length)
 case atStart=>exact ⟨1,[x.subs],_,hO4,ReadsL.cons hrW (ReadsL.nil _ _),hK4,by show _=_;rw [HP.o];rfl,Nat.le_refl _,hpos,hJ4,rfl⟩
 case round=>
  obtain ⟨k,st,xs,hown,HV,hkp,HD,hsk,hkN,hJk,hg⟩:=hrel;obtain ⟨oa,oc,rfl⟩:=zAk hown;clear hO4 hK4 hJ4
  cases st with
  | nil=>
   have hk:k=nodesN x:=by
    have:=congrArg List.length HD.o;rw [List.length_drop,hlen] at this;simp [flatR] at this
    omega
   subst hk
   gi_wp2
   go_end0
   exact ⟨⟨_,rfl⟩,.inl hJk⟩
  | cons top r=>
   obtain ⟨ys,u,rfl,HV1,hu⟩:=zJw (show ReadsL W X (r.reverse.map subsT++[subsT top]) xs by have:=HV.o;simpa using this);have hyl:ys.length=r.length:=by have:=HV1.len;simpa using this
   have HV2:=lH HV1;obtain ⟨ta,tc,rfl,ht1,ht2⟩:=zFr hu;obtain ⟨g,cur,rfl,hcell,hgB,hgl,hgf,hoc,hoc2,hheap⟩:=zJv hown (i:=r.length) (u:=.slice ta top.length tc) (by rw [List.getElem?_append_right (by omega),hyl,Nat.sub_self];rfl);have hrl:r.length+1≤4000000:=by simp at hsk;omega
   have hw1:IntKind.i64.wrap (((r.length:Int)+1) - 1)=(r.length:Int):=by rw [Int.add_sub_cancel];exact IntWalk.i64_in _ (by omega)
   have hr0:(0:Int)≤(r.length:Int):=by omega
   have hr1:(r.length:Int)<(r.length:Int)+1:=by omega
   have hr2:(r.length:Int)≤(oc:Int):=by simp at hoc;omega
   have hoc':r.length+1≤oc:=by simpa using hoc
   cases top with
   | nil=>
    have hpop:=yAs (xs:=ys) (n:=r.length) hown hyl;have HDp:Hid ((preN x 1).drop k=flatR r):=HD.o;have hsk':r.length≤k:=by simp at hsk;omega
    simp only [List.length_cons,List.length_nil] at hown hg hcell ⊢
    clear hown HV hu
    gi_wp2
    go_roundg (2 * (nodesN x - k)+r.length)
    all_goals first|omega|exact ⟨k,r,ys,hpop,HV2,hkp,HDp,hsk',hkN,hJk,rfl⟩
   | cons y s=>
    obtain ⟨b,o,sa,sc,rfl,hbl,c0,c1,c2,c3,c4,c5,hs1,hs2,hsr⟩:=zAx hu (i:=0) (x:=y) rfl
    have hbX:b∉X:=by
     have h:=hu;rw [subsT,rowT,Reads] at h;obtain ⟨_,_,h2,_⟩:=h;exact h2 (by simp) b rfl
    simp only [Nat.zero_mul,Nat.add_zero] at c0 c1 c2 c3 c4 c5
    replace hbl:b<wr.heap.size:=Nat.lt_of_lt_of_le hbl hkp.size;replace c0:=hkp.cell hbX c0;replace c1:=hkp.cell hbX c1;replace c2:=hkp.cell hbX c2;replace c3:=hkp.cell hbX c3;replace c4:=hkp.cell hbX c4;replace c5:=hkp.cell hbX c5;simp only [List.length_cons] at ht1 hown hcell hg hsk hu
    have hs0:(0:Int)≤(s.length:Int):=by omega
    have hsn:¬(s.length:Int)+1=0:=by omega
    rcases Nat.lt_or_ge 1 tc with h1c|h1c
    ·have HVr:Hid (Reads W X (subsT s) (.slice (some ⟨b,o+6,none⟩) s.length (tc - 1))):=Reads.dropRow (size:=6) (f:=exprT) zEd (i:=1) hu (by simp)
     have hget:=HD.o;rw [zMb] at hget;obtain ⟨hg1,hg2,hg3⟩:=zTl hget;rw [hlen] at hg3;have HG2:Hid ((preN x 1).drop (k+1)=flatR (y.subs::s::r)):=hg2;have hown5:=(zTk hown hyl (.slice (some ⟨b,o+6,none⟩) s.length (tc - 1))).alloc (.cells #[.int .i64 y.kind,.string y.name,.string y.more,.int .i64 y.num,.int .i64 y.den,.slice sa y.subs.length sc] 60)
     have hk5:=(hkp.fresh (p:=⟨g,r.length,none⟩) hgB (.slice (some ⟨b,o+6,none⟩) s.length (tc - 1))).alloc (.cells #[.int .i64 y.kind,.string y.name,.string y.more,.int .i64 y.num,.int .i64 y.den,.slice sa y.subs.length sc] 60);have hJ5:=HJ.o k wr _ hJk (((AbN.refl w.heap.size wr).set (p:=⟨g,r.length,none⟩) (Nat.le_trans hsz hgB) hheap (.slice (some ⟨b,o+6,none⟩) s.length (tc - 1))).trans (AbN.alloc _ (.cells #[.int .i64 y.kind,.string y.name,.string y.more,.int .i64 y.num,.int .i64 y.den,.slice sa y.subs.length sc] 60)))
     have hb5:CBox ((wr.setCell ⟨g,r.length,none⟩ (.slice (some ⟨b,o+6,none⟩) s.length (tc - 1))).alloc (.cells #[.int .i64 y.kind,.string y.name,.string y.more,.int .i64 y.num,.int .i64 y.den,.slice sa y.subs.length sc] 60)) wr.heap.size 60 #[.int .i64 y.kind,.string y.name,.string y.more,.int .i64 y.num,.int .i64 y.den,.slice sa y.subs.length sc]:=by
      have:=World.alloc_heap_new (wr.setCell ⟨g,r.length,none⟩ (.slice (some ⟨b,o+6,none⟩) s.length (tc - 1))) (.cells #[.int .i64 y.kind,.string y.name,.string y.more,.int .i64 y.num,.int .i64 y.den,.slice sa y.subs.length sc] 60);rwa [show (wr.setCell ⟨g,r.length,none⟩ (.slice (some ⟨b,o+6,none⟩) s.length (tc - 1))).heap.size=wr.heap.size by simp [World.setCell]] at this
     have hy:=HY.o k hg3 #[.int .i64 ((r.length:Int)+1+1),exV y sa sc] _ hJ5 ⟨r.length+2,y,sa,sc,hg1,rfl,hs1,hs2,(hsr.out.kp hk5).fewer (fun _ h=>by cases h)⟩;obtain ⟨fn,tmps,assign,body,hy,hR⟩:=hy;unfold exV at hy;have HB5:=lH hb5;have HO5:=lH hown5;clear hget hg1 hg2 hb5 hown5
     gi_wp2
     refine hR.mono ?_;rintro e W7 (⟨rfl,hJ7,hk7⟩|⟨rfl,hJx7⟩)
     rotate_left
     ·clear hR hy
      gi_wp2
      refine bodyPost_ret (results_none rfl _ _ _) rfl ?_;exact ⟨⟨_,rfl⟩,.inr ⟨k+1,by omega,hJx7⟩⟩
     have hsz5:=hkp.size;have hb7:CBox W7 wr.heap.size 60 _:=hk7.box (fun hx=>by have:=hXW.out _ hx;omega) HB5.o;have hown7:=zXi HO5.o hk7 hXW.out;have e5:=hb7.cell (i:=5) rfl;have el:=hb7.lt;have hk8:=(hk5.trans hk7).alloc (.cells #[.slice sa y.subs.length sc] 58);clear hR hy c0 c1 c2 c3 c4 c5 hcell hb7 HB5 HO5 hbl hgf hgl
     gi_wp2_with (gi_at_builtin;refine wpListIn_append_own _ rfl _ _ 220 rfl W.heap.size 58 i0 _ 1 24 Tryz.underlying220 hi hz0 hz1 hz2 rfl (by decide) _ _ _ rfl (hown7.alloc _) ⟨W7.heap.size,0,none⟩ 1 1 [.slice sa y.subs.length sc] rfl rfl (cell_one_new _ _ _) (by simp [Value.oneCell']) (by unfold maxLen;omega) (by omega) (by have:=hk8.size;simpa using this) ?_;intro v' w1 hown' hgrow _)
     have HK:=hk8.grown hgrow (fun b' e'=>by cases e';exact hgB)
     have HJ8:=HJ.o (k+1) W7 _ hJ7 ((AbN.alloc W7 (.cells #[.slice sa y.subs.length sc] 58)).grown hgrow (fun b' e'=>by
      cases e'
      obtain ⟨g2,cur2,e2,_,_,_,_,_,_,h2⟩:=zJv (hown7.alloc (.cells #[.slice sa y.subs.length sc] 58)) (i:=r.length) (u:=.slice (some ⟨b,o+6,none⟩) s.length (tc - 1)) (by rw [List.getElem?_append_right (by omega),hyl,Nat.sub_self];rfl)
      cases e2
      exact ⟨Nat.le_trans hsz hgB,_,_,_,h2⟩))
     go_roundg (2 * (nodesN x - (k+1))+(r.length+1+1))
     all_goals first|omega|exact ⟨k+1,y.subs::s::r,_,hown',by simpa [Hid] using ReadsL.append (ReadsL.cons hsr.out (ReadsL.nil _ _)) (ReadsL.append (ReadsL.cons HVr.o (ReadsL.nil _ _)) HV2.o),HK,HG2,by simp only [List.length_cons];omega,hg3,HJ8,rfl⟩
    ·obtain rfl:tc=1:=by omega
     obtain rfl:s=[]:=List.eq_nil_of_length_eq_zero (by omega);have HVr:Hid (Reads W X (subsT []) (.slice (some ⟨b,o,none⟩) 0 0)):=zIj _ _ _ _ (by omega);have hget:=HD.o;rw [zMb] at hget;obtain ⟨hg1,hg2,hg3⟩:=zTl hget;rw [hlen] at hg3;have HG2:Hid ((preN x 1).drop (k+1)=flatR (y.subs::[]::r)):=hg2;have hown5:=(zTk hown hyl (.slice (some ⟨b,o,none⟩) 0 0)).alloc (.cells #[.int .i64 y.kind,.string y.name,.string y.more,.int .i64 y.num,.int .i64 y.den,.slice sa y.subs.length sc] 60)
     have hk5:=(hkp.fresh (p:=⟨g,r.length,none⟩) hgB (.slice (some ⟨b,o,none⟩) 0 0)).alloc (.cells #[.int .i64 y.kind,.string y.name,.string y.more,.int .i64 y.num,.int .i64 y.den,.slice sa y.subs.length sc] 60);have hJ5:=HJ.o k wr _ hJk (((AbN.refl w.heap.size wr).set (p:=⟨g,r.length,none⟩) (Nat.le_trans hsz hgB) hheap (.slice (some ⟨b,o,none⟩) 0 0)).trans (AbN.alloc _ (.cells #[.int .i64 y.kind,.string y.name,.string y.more,.int .i64 y.num,.int .i64 y.den,.slice sa y.subs.length sc] 60)))
     have hb5:CBox ((wr.setCell ⟨g,r.length,none⟩ (.slice (some ⟨b,o,none⟩) 0 0)).alloc (.cells #[.int .i64 y.kind,.string y.name,.string y.more,.int .i64 y.num,.int .i64 y.den,.slice sa y.subs.length sc] 60)) wr.heap.size 60 #[.int .i64 y.kind,.string y.name,.string y.more,.int .i64 y.num,.int .i64 y.den,.slice sa y.subs.length sc]:=by
      have:=World.alloc_heap_new (wr.setCell ⟨g,r.length,none⟩ (.slice (some ⟨b,o,none⟩) 0 0)) (.cells #[.int .i64 y.kind,.string y.name,.string y.more,.int .i64 y.num,.int .i64 y.den,.slice sa y.subs.length sc] 60);rwa [show (wr.setCell ⟨g,r.length,none⟩ (.slice (some ⟨b,o,none⟩) 0 0)).heap.size=wr.heap.size by simp [World.setCell]] at this
     have hy:=HY.o k hg3 #[.int .i64 ((r.length:Int)+1+1),exV y sa sc] _ hJ5 ⟨r.length+2,y,sa,sc,hg1,rfl,hs1,hs2,(hsr.out.kp hk5).fewer (fun _ h=>by cases h)⟩;obtain ⟨fn,tmps,assign,body,hy,hR⟩:=hy;unfold exV at hy;have HB5:=lH hb5;have HO5:=lH hown5;clear hget hg1 hg2 hb5 hown5
     gi_wp2
     refine hR.mono ?_;rintro e W7 (⟨rfl,hJ7,hk7⟩|⟨rfl,hJx7⟩)
     rotate_left
     ·clear hR hy
      gi_wp2
      refine bodyPost_ret (results_none rfl _ _ _) rfl ?_;exact ⟨⟨_,rfl⟩,.inr ⟨k+1,by omega,hJx7⟩⟩
     have hsz5:=hkp.size;have hb7:CBox W7 wr.heap.size 60 _:=hk7.box (fun hx=>by have:=hXW.out _ hx;omega) HB5.o;have hown7:=zXi HO5.o hk7 hXW.out;have e5:=hb7.cell (i:=5) rfl;have el:=hb7.lt;have hk8:=(hk5.trans hk7).alloc (.cells #[.slice sa y.subs.length sc] 58);clear hR hy c0 c1 c2 c3 c4 c5 hcell hb7 HB5 HO5 hbl hgf hgl
     gi_wp2_with (gi_at_builtin;refine wpListIn_append_own _ rfl _ _ 220 rfl W.heap.size 58 i0 _ 1 24 Tryz.underlying220 hi hz0 hz1 hz2 rfl (by decide) _ _ _ rfl (hown7.alloc _) ⟨W7.heap.size,0,none⟩ 1 1 [.slice sa y.subs.length sc] rfl rfl (cell_one_new _ _ _) (by simp [Value.oneCell']) (by unfold maxLen;omega) (by omega) (by have:=hk8.size;simpa using this) ?_;intro v' w1 hown' hgrow _)
     have HK:=hk8.grown hgrow (fun b' e'=>by cases e';exact hgB)
     have HJ8:=HJ.o (k+1) W7 _ hJ7 ((AbN.alloc W7 (.cells #[.slice sa y.subs.length sc] 58)).grown hgrow (fun b' e'=>by
      cases e'
      obtain ⟨g2,cur2,e2,_,_,_,_,_,_,h2⟩:=zJv (hown7.alloc (.cells #[.slice sa y.subs.length sc] 58)) (i:=r.length) (u:=.slice (some ⟨b,o,none⟩) 0 0) (by rw [List.getElem?_append_right (by omega),hyl,Nat.sub_self];rfl)
      cases e2
      exact ⟨Nat.le_trans hsz hgB,_,_,_,h2⟩))
     go_roundg (2 * (nodesN x - (k+1))+(r.length+1+1))
     all_goals first|omega|exact ⟨k+1,y.subs::[]::r,_,hown',by simpa [Hid] using ReadsL.append (ReadsL.cons hsr.out (ReadsL.nil _ _)) (ReadsL.append (ReadsL.cons HVr.o (ReadsL.nil _ _)) HV2.o),HK,HG2,by simp only [List.length_cons];omega,hg3,HJ8,rfl⟩
end Go.Proofs.YtfkjfdbjhlmjcaaGreatDoor
