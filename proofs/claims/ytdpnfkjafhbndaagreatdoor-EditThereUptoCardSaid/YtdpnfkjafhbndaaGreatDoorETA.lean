/- A range over an iterator that hands out arguments of which a relation tells (an iterator over data in memory). No program in sight. syntax.name, shapeOf, checkNumbers; the reference's Reserved, Name, shapeOf, ranged of chapter 21. -/
import Derived.Test.YtdpnfkjafhbndaaGreatDoorEG1
import Derived.Test.YtdpnfkjafhbndaaGreatDoorEG4
namespace Go.Proofs.YtdpnfkjafhbndaaGreatDoor
open Go.RowKit
variable {F:Fence} {n:Nat} {P:Program}
def IterR (F:Fence) (n:Nat) (P:Program) (gf:Nat) (lb:Array Value) (N:Nat) (Arg:Nat→Array Value→World→Prop) (Kp:World→World→Prop) (Ab:World→World→Prop) (w:World):Prop:=
  ∀ (l:Nat) (J Jx:Nat→World→Prop) (W:World),Below w.heap.size w W→(∀ k A B,J k A→Ab A B→J k B)→(∀ k A B,Jx k A→Ab A B→Jx k B) →
    (∀ k,k < N→∀ args W1,J k W1→Arg k args W1→YieldAt F (n - 1) P l args W1 fun e W' =>
      (e = .returned (.bool true)∧J (k + 1) W'∧Kp W1 W')∨(e = .returned (.bool false)∧Jx (k + 1) W')) →
    J 0 W →
    CallsIn F n P gf (#[.func (.yield l) #[] #[]] ++ lb) W fun e W' => (∃ v,e = .returned v)∧(J N W'∨∃ k,k≤N∧Jx k W')
def iterPostR (B:Nat) (Kp:World→World→Prop) (I:Nat→World→Prop) (Ix:Code→Nat→World→Prop) (k:Nat) (W:World):Exit→Act→World→Prop
  | .normal,_,W' => KeepsFrom B W W'∧Kp W W'∧I k W'
  | .ret,_,W' => KeepsFrom B W W'∧Ix .ret k W'
  | .exit id,_,W' => KeepsFrom B W W'∧Ix (.exit id) k W'
  | .goto t,_,W' => KeepsFrom B W W'∧Ix (.goto t) k W'
  | .panic _,_,_ => False
  | .outgrown,_,_ => False
theorem wp_iterR {g:Operand} {ps:Array Tmp} {assign body:Code} {Q:Exit→Act→World→Prop} {a:Act} {w:World}
  (hro:F.round = none) (h1:1≤n) {gf:Nat} {lb:Array Value} (hg:a.eval g = .func (.func gf) #[] lb) (hFg:F.fn gf) (eg:∀ args w,(callFunc gf args).run P w = .ok (.enter gf args) w)
  {N:Nat} {Arg:Nat→Array Value→World→Prop} {Kp Ab:World→World→Prop} {w0:World} (hseq:IterR F (n - 1) P gf lb N Arg Kp Ab w0) (hKt:∀ a b c,Kp a b→Kp b c→Kp a c) (hKb:∀ (W:World) (o o':Obj),W.heap[w.heap.size + 1]? = some o→o.isCells = false→o.isWalk = false→Kp W (W.putObj (w.heap.size + 1) o')) (hb0:Below w0.heap.size w0 w)
  (hps:∀ k args W,Arg k args W→args.size = ps.size)
  (I:Nat→World→Prop) (Ix:Code→Nat→World→Prop) (hI:OwnFrom w.heap.size I) (hIx:∀ c,OwnFrom w.heap.size (Ix c))
  (hAb:∀ A B,Ab A B→∀ (k:Nat) (o:Obj),w.heap.size≤k→A.heap[k]? = some o→o.isCells = false→B.heap[k]? = some o)
  (hIA:∀ k A B,I k A→Ab A B→I k B) (hIxA:∀ c k A B,Ix c k A→Ab A B→Ix c k B)
  (h0:I 0 w) (Ax:Nat→Act→World→Prop) (hAx:∀ k a',OwnFrom w.heap.size (fun (_:Unit) W => Ax k a' W))
  (hassign:∀ (l:Nat) (k:Nat) (_:k < N) (args:Array Value) (W:World) (K:Act→World→Prop),I k W→Arg k args W→(∀ a' W',KeepsFrom w.heap.size W W'→Kp W W'→I k W'→Ax k a' W'→K a' W') →
   assign.wpIn (F.inRound l) (n - 1 - 1) P (Exit.then K (fun _ _ _ => False)) { tmps:=(ps.zip args).foldl (fun t (p,v) => t.setIfInBounds p v) a.tmps,defers:=[] } W)
  (hbody:∀ (l:Nat) (k:Nat) (_:k < N) (a':Act) (W:World),I k W→Ax k a' W→body.wpIn (F.inRound l) (n - 1 - 1) P (iterPostR w.heap.size Kp I Ix (k + 1) W) a' W)
  (hdone:∀ (D:Nat) (W:World),w.heap.size≤D→I N W→W.heap[D]? = some (.deferred (some []))→Q .normal { a with defers:={ target:=.collected D,args:=#[] } :: a.defers } W)
  (hstop:∀ (D:Nat) (c:Code) (k:Nat) (W:World),w.heap.size≤D→k≤N→Ix c k W→W.heap[D]? = some (.deferred (some []))→c.wpIn F n P Q { a with defers:={ target:=.collected D,args:=#[] } :: a.defers } W) :
  (Code.rangeFunc g ps assign body).wpIn F n P Q a w:=by
 refine wpIn_rangeFunc fun fn hfn => ?_;rw [hro];generalize hrec:(fun (st:LoopState) (pe:Option Code) => ({ state:=st,pending:=pe,fn,tmps:=a.tmps,params:=ps,assign,body,defers:=w.heap.size }:Loop)) = rec;have hr0:∀ st pe,({ state:=st,pending:=pe,fn,tmps:=a.tmps,params:=ps,assign,body,defers:=w.heap.size }:Loop) = rec st pe:=fun st pe => by rw [← hrec]
 generalize hW1:(w.alloc (.deferred (some []))).alloc (.loop (rec .ready none)) = W1;have hsz1:W1.heap.size = w.heap.size + 2:=by rw [← hW1];simp
 have hL1:W1.heap[w.heap.size + 1]? = some (.loop (rec .ready none)):=by
  rw [← hW1];have:=World.alloc_heap_new (w.alloc (.deferred (some []))) (.loop (rec .ready none));rwa [World.size_alloc] at this
 have hK1:W1.heap[w.heap.size]? = some (.deferred (some [])):=by
  rw [← hW1];exact (Below.heap_alloc _ _ _ (by simp)).trans (World.alloc_heap_new w _)
 have hI1:I 0 W1:=by rw [← hW1];exact hI.alloc _ (hI.alloc _ h0)
 have hb1:Below w0.heap.size w0 W1:=by
  rw [← hW1];exact hb0.trans ((((Below.refl _ w).alloc (Nat.le_refl _) _).alloc (by simp) _).mono hb0.size)
 refine ⟨w.heap.size + 1,[{ target:=.collected w.heap.size,args:=#[] }],W1,{ target:=.fn (.func gf) lb,args:=#[.func (.yield (w.heap.size + 1)) #[] #[]] },W1,gf,
  #[.func (.yield (w.heap.size + 1)) #[] #[]] ++ lb,W1,?_,?_,?_,?_,fun _ => h1,?_⟩
 ·rw [← hW1,← hr0];exact run_enterLoop_outer _ _ _ _ _
 ·simp only [resolve,hg]
  simp [go_sem]
 ·intro f' hf';simp [Target.leads] at hf';subst hf';exact hFg
 ·simp [invoke,go_sem,eg]
 ·refine (hseq (w.heap.size + 1)
   (fun k W => I k W∧W.heap[w.heap.size + 1]? = some (.loop (rec .ready none))∧W.heap[w.heap.size]? = some (.deferred (some [])))
   (fun k W => ∃ c,Ix c k W∧W.heap[w.heap.size + 1]? = some (.loop (rec .done (some c)))∧W.heap[w.heap.size]? = some (.deferred (some [])))
   W1 hb1
   (fun k A B hs hab => ⟨hIA k A B hs.1 hab,hAb A B hab _ _ (by omega) hs.2.1 rfl,hAb A B hab _ _ (by omega) hs.2.2 rfl⟩)
   (fun k A B hs hab => by
    obtain ⟨c,hc,hl,hk⟩:=hs
    exact ⟨c,hIxA c k A B hc hab,hAb A B hab _ _ (by omega) hl rfl,hAb A B hab _ _ (by omega) hk rfl⟩)
   ?_ ⟨hI1,hL1,hK1⟩).mono ?_
  ·rintro k hk args W ⟨hi,hl,hd⟩ harg
   have hy:=run_yield (P:=P) (args:=args) hl (by rw [← hr0];exact hps k args W harg);rw [← hr0] at hy;refine ⟨fn,_,assign,body,hy,roundIn_of_wpIn hfn (hassign _ k hk args W _ hi harg ?_)⟩;clear hy;intro a' Wa hkfa hkpa hia hax;have hla:=hkfa.same _ _ (by omega) hl rfl;have hda:=hkfa.same _ _ (Nat.le_refl _) hd rfl;have hlt:w.heap.size + 1 < Wa.heap.size:=(Array.getElem?_eq_some_iff.1 hla).1;refine ⟨_,run_beginRound hla (by rw [← hr0]),?_⟩
   have hl2:(Wa.putObj (w.heap.size + 1) (.loop { rec .ready none with state:=.busy })).heap[w.heap.size + 1]? = some (.loop { rec .ready none with state:=.busy }):=World.putObj_heap_same hlt;have hd2:(Wa.putObj (w.heap.size + 1) (.loop { rec .ready none with state:=.busy })).heap[w.heap.size]? = some (.deferred (some [])):=(World.putObj_heap_other (by omega)).trans hda;have hw2:=hKb Wa _ (.loop { rec .ready none with state:=.busy }) hla rfl rfl
   refine wpIn_mono (hbody _ k hk a' _ (hI.putObj _ hia (by omega) hla rfl) ((hAx k a').putObj (s:=()) _ hax (by omega) hla rfl)) ?_
   have fin:∀ (jump:Option Code) (W3:World),KeepsFrom w.heap.size (Wa.putObj (w.heap.size + 1) (.loop { rec .ready none with state:=.busy })) W3 →
     (Instr.endRound (w.heap.size + 1) jump).run P W3 = .ok (.bool jump.isNone) (W3.putObj (w.heap.size + 1) (.loop (rec (if jump.isNone then .ready else .done) jump))) ∧
     (∃ o,W3.heap[w.heap.size + 1]? = some (.loop o)) ∧
     (W3.putObj (w.heap.size + 1) (.loop (rec (if jump.isNone then .ready else .done) jump))).heap[w.heap.size + 1]? = some (.loop (rec (if jump.isNone then .ready else .done) jump)) ∧
     (W3.putObj (w.heap.size + 1) (.loop (rec (if jump.isNone then .ready else .done) jump))).heap[w.heap.size]? = some (.deferred (some [])):=fun jump W3 hk3 => by
    have hl3:=hk3.same _ _ (by omega) hl2 rfl;have:=run_endRound (P:=P) jump hl3;rw [← hr0] at this ⊢;exact ⟨this,⟨_,hl3⟩,World.putObj_heap_same (Array.getElem?_eq_some_iff.1 hl3).1,(World.putObj_heap_other (by omega)).trans (hk3.same _ _ (Nat.le_refl _) hd2 rfl)⟩
   rintro e a3 W3 hp
   cases e with
   | normal =>
    obtain ⟨hk3,hkp3,hi3⟩:=hp;obtain ⟨hr,⟨o,hl3⟩,hl4,hd4⟩:=fin none W3 hk3;exact ⟨_,_,hr,.inl ⟨rfl,⟨hI.putObj _ hi3 (by omega) hl3 rfl,hl4,hd4⟩,hKt _ _ _ hkpa (hKt _ _ _ (hKt _ _ _ hw2 hkp3) (hKb _ _ _ hl3 rfl rfl))⟩⟩
   | ret =>
    obtain ⟨hk3,hi3⟩:=hp;obtain ⟨hr,⟨o,hl3⟩,hl4,hd4⟩:=fin (some .ret) W3 hk3;exact ⟨_,_,hr,.inr ⟨rfl,.ret,(hIx _).putObj _ hi3 (by omega) hl3 rfl,hl4,hd4⟩⟩
   | exit id =>
    obtain ⟨hk3,hi3⟩:=hp;obtain ⟨hr,⟨o,hl3⟩,hl4,hd4⟩:=fin (some (.exit id)) W3 hk3;exact ⟨_,_,hr,.inr ⟨rfl,.exit id,(hIx _).putObj _ hi3 (by omega) hl3 rfl,hl4,hd4⟩⟩
   | goto t =>
    obtain ⟨hk3,hi3⟩:=hp;obtain ⟨hr,⟨o,hl3⟩,hl4,hd4⟩:=fin (some (.goto t)) W3 hk3;exact ⟨_,_,hr,.inr ⟨rfl,.goto t,(hIx _).putObj _ hi3 (by omega) hl3 rfl,hl4,hd4⟩⟩
   | panic ch => exact hp.elim
   | outgrown => exact hp.elim
  ·rintro e W2 ⟨⟨v,rfl⟩,(⟨hi,hl,hd⟩ | ⟨k,hk,c,hi,hl,hd⟩)⟩
   ·exact ⟨none,_,by have:=run_endLoop (P:=P) hl (by rw [← hr0];simp);rw [← hr0] at this;exact this,hdone _ _ (Nat.le_refl _) (hI.putObj _ hi (by omega) hl rfl) ((World.putObj_heap_other (by omega)).trans hd)⟩
   ·exact ⟨some c,_,by have:=run_endLoop (P:=P) hl (by rw [← hr0];simp);rw [← hr0] at this;exact this,hstop _ c k _ (Nat.le_refl _) hk ((hIx c).putObj _ hi (by omega) hl rfl) ((World.putObj_heap_other (by omega)).trans hd)⟩
structure KpX (X:List Nat) (A B:World):Prop where
  size:A.heap.size≤B.heap.size
  block:∀ (k:Nat) (cs:Array Value) (t:TypeId) (m:Nat × Nat),k ∉ X→A.heap[k]? = some (.cells cs t m)→B.heap[k]? = some (.cells cs t m)
theorem KpX.refl (X:List Nat) (A:World):KpX X A A:=⟨Nat.le_refl _,fun _ _ _ _ _ h => h⟩
theorem KpX.trans {X:List Nat} {A B C:World} (h:KpX X A B) (k:KpX X B C):KpX X A C:=⟨Nat.le_trans h.size k.size,fun b cs t m hb ho => k.block b cs t m hb (h.block b cs t m hb ho)⟩
theorem KpX.putObj {X:List Nat} (W:World) (k:Nat) (o o':Obj) (ho:W.heap[k]? = some o) (hc:o.isCells = false):KpX X W (W.putObj k o'):=by
 refine ⟨by simp [World.putObj],fun b cs t m _ hb => ?_⟩;have hne:b≠k:=fun e => by subst e;rw [ho] at hb;cases hb;cases hc
 exact (World.putObj_heap_other hne).trans hb
theorem KpX.below {X:List Nat} {A B:World} (h:Below A.heap.size A B):KpX X A B:=⟨h.size,fun b _ _ _ _ hb => (h.block b (Array.getElem?_eq_some_iff.1 hb).1).trans hb⟩
theorem KpX.set {X:List Nat} {A B:World} (h:KpX X A B) {p:Addr} (hp:p.block∈X) (u:Value):KpX X A (B.setCell p u):=
 ⟨by simpa [World.setCell] using h.size,fun b cs t m hb ho => by rw [Below.heap_setCell _ _ _ _ (fun e => hb (by rw [e];exact hp))];exact h.block b cs t m hb ho⟩
theorem KpX.cell {X:List Nat} {A B:World} (h:KpX X A B) {b o:Nat} {v:Value} (hb:b ∉ X) (hc:A.cell? ⟨b,o,none⟩ = some v):B.cell? ⟨b,o,none⟩ = some v:=by
 cases hA:A.heap[b]? with
 | none => simp [World.cell?,hA] at hc
 | some ob =>
  cases ob with
  | cells cs t m =>
   have hB:=h.block b cs t m hb hA;simp only [World.cell?,hA,hB] at hc ⊢
   exact hc
  | _ => simp [World.cell?,hA] at hc
theorem KpX.box {X:List Nat} {A B:World} (h:KpX X A B) {b:Nat} {cs:Array Value} {t:TypeId} {m:Nat × Nat} (hb:b ∉ X) (hA:A.heap[b]? = some (.cells cs t m)):B.heap[b]? = some (.cells cs t m):=h.block b cs t m hb hA
theorem IsRow.kp {w w':World} {size:Nat} {v:Value} {n:Nat} {xs:List Value} {X:List Nat} (h:IsRow w size v n xs) (m:KpX X w w') (hx:0 < n→∀ b,v.ownBlock = some b→b ∉ X):IsRow w' size v n xs:=by
 obtain ⟨hl,a,cap,rfl,h1,h2,h3⟩:=h;refine ⟨hl,a,cap,rfl,h1,h2,fun hn => ?_⟩;obtain ⟨b,o,rfl,hb,hc⟩:=h3 hn;exact ⟨b,o,rfl,Nat.lt_of_lt_of_le hb m.size,fun j u hj => m.cell (hx hn b rfl) (hc j u hj)⟩
mutual
theorem Reads.kp {w w':World} {X:List Nat} (m:KpX X w w'):∀ {d:Tree} {v:Value},Reads w X d v→Reads w' X d v
 | .leaf _,_,h => by rw [Reads] at h ⊢;exact h
 | .row _ _ _,_,h => by
  rw [Reads] at h ⊢;obtain ⟨xs,h1,h2,h3⟩:=h;exact ⟨xs,h1.kp m h2,h2,ReadsL.kp m h3⟩
theorem ReadsL.kp {w w':World} {X:List Nat} (m:KpX X w w'):∀ {ds:List Tree} {xs:List Value},ReadsL w X ds xs→ReadsL w' X ds xs
 | [],_,h => by rw [ReadsL] at h ⊢;exact h
 | _ :: _,_,h => by
  rw [ReadsL] at h ⊢;obtain ⟨x,rest,e,h1,h2⟩:=h;exact ⟨x,rest,e,Reads.kp m h1,ReadsL.kp m h2⟩
end
structure AbN (n₀:Nat) (A B:World):Prop where
  os:B.os = A.os
  tape:B.tape = A.tape
  output:B.output = A.output
  size:A.heap.size≤B.heap.size
  block:∀ (k:Nat) (o:Obj),A.heap[k]? = some o→(k < n₀∨o.isCells = false)→B.heap[k]? = some o
theorem AbN.refl (n₀:Nat) (A:World):AbN n₀ A A:=⟨rfl,rfl,rfl,Nat.le_refl _,fun _ _ h _ => h⟩
theorem AbN.trans {n₀:Nat} {A B C:World} (h:AbN n₀ A B) (k:AbN n₀ B C):AbN n₀ A C:=⟨k.os.trans h.os,k.tape.trans h.tape,k.output.trans h.output,Nat.le_trans h.size k.size,fun b o hb ho => k.block b o (h.block b o hb ho) ho⟩
theorem AbN.alloc {n₀:Nat} (A:World) (o:Obj):AbN n₀ A (A.alloc o):=⟨rfl,rfl,rfl,by simp,fun b x hb _ => (Below.heap_alloc A o b (Array.getElem?_eq_some_iff.1 hb).1).trans hb⟩
theorem AbN.set {n₀:Nat} {A B:World} (h:AbN n₀ A B) {p:Addr} (hp:n₀≤p.block) {cs:Array Value} {t:TypeId} {m:Nat × Nat} (hb:B.heap[p.block]? = some (.cells cs t m)) (u:Value):AbN n₀ A (B.setCell p u):=by
 refine ⟨h.os,h.tape,h.output,by simpa [World.setCell] using h.size,fun b o ho hc => ?_⟩;have h1:=h.block b o ho hc
 have hne:b≠p.block:=fun e => by
  subst e
  rcases hc with hc | hc
  ·omega
  ·rw [hb] at h1;cases h1;cases hc
 exact (Below.heap_setCell B p u b hne).trans h1
theorem AbN.grown {n₀:Nat} {A B C:World} (h:AbN n₀ A B) {row:Option Nat} (g:B.grownBy C row) (hr:∀ b,row = some b→n₀≤b∧∃ cs t m,B.heap[b]? = some (.cells cs t m)):AbN n₀ A C:=by
 refine ⟨g.os.trans h.os,g.tape.trans h.tape,g.output.trans h.output,Nat.le_trans h.size g.size,fun b o ho hc => ?_⟩;have h1:=h.block b o ho hc;refine (g.block b (Array.getElem?_eq_some_iff.1 h1).1 fun e => ?_).trans h1;obtain ⟨h2,cs,t,m,h3⟩:=hr b e.symm
 rcases hc with hc | hc
 ·omega
 ·rw [h3] at h1;cases h1;cases hc
theorem AbN.below {n₀:Nat} {A B:World} (h:AbN n₀ A B) (hn:n₀≤A.heap.size):Below n₀ A B:=by
 refine ⟨h.os,h.tape,h.output,h.size,fun k hk => ?_⟩;have hk':k < A.heap.size:=Nat.lt_of_lt_of_le hk hn;rw [h.block k _ (Array.getElem?_eq_getElem hk') (.inl hk),Array.getElem?_eq_getElem hk']
theorem AbN.box {n₀:Nat} {A B:World} (h:AbN n₀ A B) {b:Nat} (hb:b < n₀) {o:Obj} (ho:A.heap[b]? = some o):B.heap[b]? = some o:=h.block b o ho (.inl hb)
theorem shapeK_range (k:Int):(1≤k∧k≤15)∨shapeK k = none:=by
 by_cases h:1≤k∧k≤15
 ·exact .inl h
 ·right
  unfold shapeK
  repeat (rw [if_neg (by omega)])
theorem shapeK_none {k:Int} (h:shapeK k = none):k < 1∨15 < k:=by
 by_cases h1:1≤k∧k≤15
 ·exfalso
  have:k = 1∨k = 2∨k = 3∨k = 4∨k = 5∨k = 6∨k = 7∨k = 8∨k = 9∨k = 10∨k = 11∨k = 12∨k = 13∨k = 14∨k = 15:=by omega
  rcases this with rfl | rfl | rfl | rfl | rfl | rfl | rfl | rfl | rfl | rfl | rfl | rfl | rfl | rfl | rfl <;> cases h
 ·omega
def shapeV (k:Int):Value:=match shapeK k with
 | some (a,b,c) => .tuple #[.agg #[.int .i64 a,.int .i64 b,.int .i64 c],.bool true]
 | none => .tuple #[.agg #[.int .i64 0,.int .i64 0,.int .i64 0],.bool false]
set_option maxHeartbeats 2000000 in
theorem shapeOf_any (k:Int) (w:World):Calls Tryz.prog 241 #[.int .i64 k] w fun e w' => e = .returned (shapeV k)∧Below w.heap.size w w':=by
 rcases shapeK_range k with h | h
 ·have:k = 1∨k = 2∨k = 3∨k = 4∨k = 5∨k = 6∨k = 7∨k = 8∨k = 9∨k = 10∨k = 11∨k = 12∨k = 13∨k = 14∨k = 15:=by omega
  clear h
  rcases this with rfl | rfl | rfl | rfl | rfl | rfl | rfl | rfl | rfl | rfl | rfl | rfl | rfl | rfl | rfl
  all_goals
   go_enter Tryz.func241,Tryz.ntmps241
   go_wp2;refine bodyPost_ret (v:=shapeV _) ?_ rfl ⟨rfl,qalloc _ _⟩;simp [results,Tryz.results241,go_sem]
   rfl
 ·have HS:Hid (shapeV k = .tuple #[.agg #[.int .i64 0,.int .i64 0,.int .i64 0],.bool false]):=by show _ = _;rw [shapeV,h]
  have:=shapeK_none h;have q1:(k == 1) = false:=by rw [beq_eq_false_iff_ne];omega
  have q2:(k == 2) = false:=by rw [beq_eq_false_iff_ne];omega
  have q3:(k == 3) = false:=by rw [beq_eq_false_iff_ne];omega
  have q4:(k == 4) = false:=by rw [beq_eq_false_iff_ne];omega
  have q5:(k == 5) = false:=by rw [beq_eq_false_iff_ne];omega
  have q6:(k == 6) = false:=by rw [beq_eq_false_iff_ne];omega
  have q7:(k == 7) = false:=by rw [beq_eq_false_iff_ne];omega
  have q8:(k == 8) = false:=by rw [beq_eq_false_iff_ne];omega
  have q9:(k == 9) = false:=by rw [beq_eq_false_iff_ne];omega
  have q10:(k == 10) = false:=by rw [beq_eq_false_iff_ne];omega
  have q11:(k == 11) = false:=by rw [beq_eq_false_iff_ne];omega
  have q12:(k == 12) = false:=by rw [beq_eq_false_iff_ne];omega
  have q13:(k == 13) = false:=by rw [beq_eq_false_iff_ne];omega
  have q14:(k == 14) = false:=by rw [beq_eq_false_iff_ne];omega
  have q15:(k == 15) = false:=by rw [beq_eq_false_iff_ne];omega
  clear this h
  go_enter Tryz.func241,Tryz.ntmps241
  go_wp2;refine bodyPost_ret (v:=.tuple #[.agg #[.int .i64 0,.int .i64 0,.int .i64 0],.bool false]) (by simp [results,Tryz.results241,go_sem]) rfl ⟨by rw [HS.out],qalloc _ _⟩
end Go.Proofs.YtdpnfkjafhbndaaGreatDoor

