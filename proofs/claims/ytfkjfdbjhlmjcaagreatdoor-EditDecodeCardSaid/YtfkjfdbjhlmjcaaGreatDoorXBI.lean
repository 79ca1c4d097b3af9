/- edit.change, edit.effects: -/
import Derived.Test.YtfkjfdbjhlmjcaaGreatDoorXBG
import Derived.Test.YtfkjfdbjhlmjcaaGreatDoorXNB
set_option maxRecDepth 100000
set_option maxHeartbeats 16000000
namespace Go.Proofs.YtfkjfdbjhlmjcaaGreatDoor
open Go.RowKit Go.Shelf
attribute [local go_sem] Oper.semAt_some
theorem zG (v:Value) (w:World) (hv:v=.nilFunc∨∃F,v=.func (.func F) #[] #[]) :
  Calls Tryz.prog 78 #[v] w fun r w'=>r=.returned (.func (.func 130) #[] #[.pointer (some ⟨w.heap.size,0,none⟩)])∧w'=w.alloc (.cells #[v] 122):=by
 rcases hv with rfl|⟨F,rfl⟩
 all_goals
  go_enter Tryz.func78,Tryz.ntmps78
  go_wp2;go_ret;exact ⟨by first|rfl|trivial,rfl⟩
def fnV (f:Nat) (s:Nat):Value:=.func (.func f) #[] #[.pointer (some ⟨s,0,none⟩)]
def effF (s:Nat→Nat) (k:Int):Option Value:=
  if k=9 then some (fnV 130 (s 3)) else if k=8 then some (fnV 130 (s 2)) else if k=7 then some (fnV 130 (s 1)) else if k=6 then some (fnV 130 (s 0)) else if k=5 then some (.func (.func 75) #[] #[]) else if k=4 then some (.func (.func 73) #[] #[]) else if k=3 then some (.func (.func 70) #[] #[]) else none
def setV:Nat→Value
 | 0=>.nilFunc
 | 1=>.func (.func 79) #[] #[]
 | 2=>.func (.func 80) #[] #[]
 | _=>.func (.func 81) #[] #[]
structure EffMap (w:World) (B M:Nat) (s:Nat→Nat):Prop where
  map:IsMapI 3 w M 7 (effF s)
  box:∀i,i<4→CBox w (s i) 122 #[setV i]
  lo:B≤M∧∀i,i<4→B≤s i
theorem EffMap.mod {X:List Nat} {w w':World} {B M:Nat} {s:Nat→Nat} (h:EffMap w B M s) (m:Mod X w w') (hM:M∉X) (hs:∀i,i<4→s i∉X):EffMap w' B M s:=
 ⟨h.map.mod m hM,fun i hi=>(h.box i hi).mod m (hs i hi),h.lo⟩
theorem EffMap.below {w w':World} {B M:Nat} {s:Nat→Nat} (h:EffMap w B M s) (m:Bw w w'):EffMap w' B M s:=h.mod (X:=[]) (Mod.of m) (by simp) (fun _ _=>by simp)
theorem zSj (w:World) :
  Calls Tryz.prog 32 #[] w fun r w'=>∃M s,r=.returned (.map (some M))∧EffMap w' w.heap.size M s∧Bw w w':=by
 go_enter Tryz.func32,Tryz.ntmps32
 have hmk:=zKc 63 w;have hn:∀n:Nat,n≤7→n<maxLen:=fun n h=>by unfold maxLen;omega
 obtain ⟨M,hM⟩:∃M,M=w.heap.size:=⟨_,rfl⟩;have m0:=IsMapI.made 3 w;rw [←hM] at m0 hmk;have q0:Mod [M] w (w.alloc (.map #[] 0)):=Mod.of (zAa w _);obtain ⟨w1,p1,m1,g1⟩:=m0.put zDx Tryz.underlying63 (hn 0 (by omega)) (zFk (x:=3) (by unfold inI;omega)) (.func (.func 70) #[] #[]);have q1:Mod [M] w w1:=q0.trans (zAp g1);obtain ⟨w2,p2,m2,g2⟩:=m1.put zDx Tryz.underlying63 (hn 1 (by omega)) (zFk (x:=4) (by unfold inI;omega)) (.func (.func 73) #[] #[]);have q2:Mod [M] w w2:=q1.trans (zAp g2)
 obtain ⟨w3,p3,m3,g3⟩:=m2.put zDx Tryz.underlying63 (hn 2 (by omega)) (zFk (x:=5) (by unfold inI;omega)) (.func (.func 75) #[] #[]);have q3:Mod [M] w w3:=q2.trans (zAp g3);have a0:=m3.below (zAa w3 (.cells #[.nilFunc] 122));have c0:=CBox.new w3 122 #[.nilFunc];have l0:M<w3.heap.size:=m3.lt;obtain ⟨w4,p4,m4,g4⟩:=a0.put zDx Tryz.underlying63 (hn 3 (by omega)) (zFk (x:=6) (by unfold inI;omega)) (fnV 130 w3.heap.size);have r0:Mod [M] w3 w4:=(Mod.of (zAa w3 (.cells #[.nilFunc] 122))).trans (zAp g4)
 have q4:Mod [M] w w4:=q3.trans r0;have d0:CBox w4 w3.heap.size 122 #[.nilFunc]:=c0.mod (zAp g4) (by simp;omega);have a1:=m4.below (zAa w4 (.cells #[.func (.func 79) #[] #[]] 122));have c1:=CBox.new w4 122 #[.func (.func 79) #[] #[]];have l1:M<w4.heap.size:=m4.lt;obtain ⟨w5,p5,m5,g5⟩:=a1.put zDx Tryz.underlying63 (hn 4 (by omega)) (zFk (x:=7) (by unfold inI;omega)) (fnV 130 w4.heap.size);have r1:Mod [M] w4 w5:=(Mod.of (zAa w4 (.cells #[.func (.func 79) #[] #[]] 122))).trans (zAp g5);have q5:Mod [M] w w5:=q4.trans r1
 have d1:CBox w5 w4.heap.size 122 #[.func (.func 79) #[] #[]]:=c1.mod (zAp g5) (by simp;omega);have a2:=m5.below (zAa w5 (.cells #[.func (.func 80) #[] #[]] 122));have c2:=CBox.new w5 122 #[.func (.func 80) #[] #[]];have l2:M<w5.heap.size:=m5.lt;obtain ⟨w6,p6,m6,g6⟩:=a2.put zDx Tryz.underlying63 (hn 5 (by omega)) (zFk (x:=8) (by unfold inI;omega)) (fnV 130 w5.heap.size);have r2:Mod [M] w5 w6:=(Mod.of (zAa w5 (.cells #[.func (.func 80) #[] #[]] 122))).trans (zAp g6);have q6:Mod [M] w w6:=q5.trans r2
 have d2:CBox w6 w5.heap.size 122 #[.func (.func 80) #[] #[]]:=c2.mod (zAp g6) (by simp;omega);have a3:=m6.below (zAa w6 (.cells #[.func (.func 81) #[] #[]] 122));have c3:=CBox.new w6 122 #[.func (.func 81) #[] #[]];have l3:M<w6.heap.size:=m6.lt;obtain ⟨w7,p7,m7,g7⟩:=a3.put zDx Tryz.underlying63 (hn 6 (by omega)) (zFk (x:=9) (by unfold inI;omega)) (fnV 130 w6.heap.size);have r3:Mod [M] w6 w7:=(Mod.of (zAa w6 (.cells #[.func (.func 81) #[] #[]] 122))).trans (zAp g7);have q7:Mod [M] w w7:=q6.trans r3
 have d3:CBox w7 w6.heap.size 122 #[.func (.func 81) #[] #[]]:=c3.mod (zAp g7) (by simp;omega)
 have HEND:Hid (EffMap w7 w.heap.size M (fun i=>match i with|0=>w3.heap.size|1=>w4.heap.size|2=>w5.heap.size|_=>w6.heap.size)):=by
  refine ⟨m7,fun i hi=>?_,?_,fun i hi=>?_⟩
  ·match i,hi with
   | 0,_=>exact ((d0.mod r1 (by simp;omega)).mod r2 (by simp;omega)).mod r3 (by simp;omega)
   | 1,_=>exact (d1.mod r2 (by simp;omega)).mod r3 (by simp;omega)
   | 2,_=>exact d2.mod r3 (by simp;omega)
   | 3,_=>exact d3
  ·omega
  ·match i,hi with
   | 0,_=>show w.heap.size≤w3.heap.size;omega
   | 1,_=>show w.heap.size≤w4.heap.size;omega
   | 2,_=>show w.heap.size≤w5.heap.size;omega
   | 3,_=>show w.heap.size≤w6.heap.size;omega
 have HQ:Hid (Bw w w7):=q7.upto (Nat.le_refl _) (fun k hk=>by simp at hk;omega);unfold fnV at p4 p5 p6 p7;clear m0 m1 m2 m3 m4 m5 m6 m7 g1 g2 g3 g4 g5 g6 g7 q0 q1 q2 q3 q4 q5 q6 q7 a0 a1 a2 a3 c0 c1 c2 c3 l0 l1 l2 l3 r0 r1 r2 r3 d0 d1 d2 d3 hn hM;go_wp2_with (fail)
 refine (zG _ _ (by first|exact .inl rfl|exact .inr ⟨_,rfl⟩)).mono ?_;rintro r W ⟨rfl,rfl⟩;go_wp2_with (fail)
 refine (zG _ _ (by first|exact .inl rfl|exact .inr ⟨_,rfl⟩)).mono ?_;rintro r W ⟨rfl,rfl⟩;go_wp2_with (fail)
 refine (zG _ _ (by first|exact .inl rfl|exact .inr ⟨_,rfl⟩)).mono ?_;rintro r W ⟨rfl,rfl⟩;go_wp2_with (fail)
 refine (zG _ _ (by first|exact .inl rfl|exact .inr ⟨_,rfl⟩)).mono ?_;rintro r W ⟨rfl,rfl⟩;go_wp2;go_ret;exact ⟨M,_,rfl,HEND.o,HQ.o⟩
end Go.Proofs.YtfkjfdbjhlmjcaaGreatDoor
namespace Go.Proofs.YtfkjfdbjhlmjcaaGreatDoor
open Go.RowKit Go.Shelf
theorem zFl {w:World} {B:Nat} {e:TypeId} {n cap sz:Nat} {xs:List Value} {g:Nat} (h:w.ownsRow B e sz (.slice (some ⟨g,0,none⟩) n cap) n xs) (i:Nat) (v:Value):(w.setCell ⟨g,i,none⟩ v).ownsRow B e sz (.slice (some ⟨g,0,none⟩) n cap) n (xs.set i v):=by
 obtain ⟨hl,h2⟩:=h
 rcases h2 with ⟨hv,h0⟩|⟨g',cap',cur,hv,hg,hh,hn',hc,hs,ht⟩
 ·cases hv
 ·injection hv with e1 e2 e3
  injection e1 with e1
  injection e1 with e1
  subst e1 e3;refine ⟨by rw [List.length_set];exact hl,.inr ⟨g,cap,cur.setIfInBounds i v,rfl,hg,CBox.set (B:=g) hh i v,hn',hc,by rw [Array.size_setIfInBounds];exact hs,?_⟩⟩;rw [Array.toList_setIfInBounds,List.take_set,ht]
theorem zKo {α:Type} {l:List α} {i:Nat} {x:α} (h:l[i]?=some x):∃P R,l=P++x::R∧P.length=i:=by
 obtain ⟨hi,e⟩:=List.getElem?_eq_some_iff.1 h;refine ⟨l.take i,l.drop (i+1),?_,List.length_take_of_le (by omega)⟩;subst e;simp
theorem zBd {v:Value} {b:Nat}:b∈blk v↔v.ownBlock=some b:=by unfold blk;rw [Option.mem_toList]
theorem zDd (l:List MV):(l.flatMap mvC).length=l.length * 3:=by
 induction l with
 | nil=>rfl
 | cons x r ih=>rw [List.flatMap_cons,List.length_append,ih,List.length_cons];show 3+_=_;omega
theorem zEw {P R:List MV} {x:MV}:(P++x::R).flatMap mvC=P.flatMap mvC++(mvC x++R.flatMap mvC):=by rw [List.flatMap_append,List.flatMap_cons]
def Apart (x y:MV):Prop:=(∀b∈blk x.u,b∉blk y.u)∧∀b∈blk x.d,b∉blk y.d
theorem Apart.symm {x y:MV} (h:Apart x y):Apart y x:=⟨fun b hb c=>h.1 b c hb,fun b hb c=>h.2 b c hb⟩
structure NowR (w0 w:World) (Z:List Nat) (v:Value) (ms:List MV):Prop where
  old:Below w0.heap.size w0 w
  own:w.ownsRow w0.heap.size 52 3 v ms.length (ms.flatMap mvC)
  mr:∀x∈ms,MR w0 w x
  dis:ms.Pairwise Apart
  av:(∀b∈blk v,b∉Z)∧∀x∈ms,(∀b∈blk x.u,b∉Z)∧∀b∈blk x.d,b∉Z
theorem NowR.below {w0 w w':World} {Z:List Nat} {v:Value} {ms:List MV} (h:NowR w0 w Z v ms) (m:Bw w w'):NowR w0 w' Z v ms:=
 ⟨zA h.old m,zAq h.own m,fun x hx=>(h.mr x hx).below m,h.dis,h.av⟩
theorem MR.mod {w0 w w':World} {x:MV} {X:List Nat} (h:MR w0 w x) (m:Mod X w w') (hu:∀b∈blk x.u,b∉X) (hd:∀b∈blk x.d,b∉X):MR w0 w' x:=
 ⟨zEm h.uses m (fun b hb=>hu b (zBd.2 hb)),by obtain ⟨xs,h1,h2⟩:=h.decls;exact ⟨xs,zEm h1 m (fun b hb=>hd b (zBd.2 hb)),h2⟩⟩
theorem MR.nil {w0 w:World} (s:ByteArray):MR w0 w ⟨⟨s,[],[]⟩,.slice none 0 0,.slice none 0 0⟩:=
 ⟨World.ownsRow_nil w _ _ _,[],World.ownsRow_nil w _ _ _,by simp [ReadsL]⟩
theorem MR.ud {w0 w:World} {x y:MV} (h:MR w0 w x) (k:MR w0 w y):(∀b∈blk x.u,b∉blk y.d)∧∀b∈blk x.d,b∉blk y.u:=by
  obtain ⟨xs,h1,-⟩:=h.decls
  obtain ⟨ys,k1,-⟩:=k.decls
  exact ⟨fun b hb c=>zQf (by decide) h.uses k1 b (zBd.1 hb) (zBd.1 c),fun b hb c=>zQf (by decide) h1 k.uses b (zBd.1 hb) (zBd.1 c)⟩
theorem MR.row {w0 w:World} {x:MV} (h:MR w0 w x) {B n:Nat} {v:Value} {xs:List Value} (k:w.ownsRow B 52 3 v n xs):∀b∈blk v,b∉blk x.u++blk x.d:=by
 intro b hb c
 rcases List.mem_append.1 c with c|c
 ·exact zQf (by decide) k h.uses b (zBd.1 hb) (zBd.1 c)
 ·obtain ⟨ys,h1,-⟩:=h.decls
  exact zQf (by decide) k h1 b (zBd.1 hb) (zBd.1 c)
theorem MR.lt {w0 w:World} {x:MV} (h:MR w0 w x):(∀b∈blk x.u,b<w.heap.size)∧∀b∈blk x.d,b<w.heap.size:=by
 obtain ⟨xs,h1,-⟩:=h.decls;exact ⟨fun b hb=>(h.uses.lt b (zBd.1 hb)).2,fun b hb=>(h1.lt b (zBd.1 hb)).2⟩
theorem zQh {w0 w:World} (hb:Bw w0 w):∀{ms:List MV},(∀x∈ms,MR w0 w x)→ReadsL w [] ((ms.map MV.m).flatMap modT) (ms.flatMap mvC)
 | [],_=>by simp [ReadsL]
 | x::r,h=>by
  rw [List.map_cons,List.flatMap_cons,List.flatMap_cons];have hx:=h x (List.mem_cons_self ..);refine ReadsL.append (zQh hb fun y hy=>h y (List.mem_cons_of_mem _ hy)) ?_;exact ReadsL.cons (Reads.leaf' _ _ _) (.cons (zAg.2 ⟨hx.strs,fun _ b _=>by simp⟩) (.cons (hx.reads hb) (.nil _ _)))
theorem NowR.reads {w0 w:World} {Z:List Nat} {v:Value} {ms:List MV} (h:NowR w0 w Z v ms):Reads w [] (modsT (ms.map MV.m)) v:=by
 have:=zAs h.own;rw [←List.length_map (f:=MV.m)] at this;exact Reads.ofRow this (fun _ b _=>by simp) (zQh h.old h.mr)
theorem NowR.at_ {w0 w:World} {Z:List Nat} {v:Value} {ms:List MV} (h:NowR w0 w Z v ms) {i:Nat} {x:MV} (hi:ms[i]?=some x) :
    ∃g c,v=.slice (some ⟨g,0,none⟩) ms.length c∧ModAt w g (i * 3) x∧x.u.ownBlock≠some g∧x.d.ownBlock≠some g:=by
  obtain ⟨a,c,e⟩:=zAk h.own
  have ho:=h.own
  rw [e] at ho
  obtain ⟨P,R,rfl,rfl⟩:=zKo hi
  obtain ⟨g,cur,rfl,hc,-,hl,hf,-⟩:=zCo ho (by simp;omega)
  have hx:=h.mr x (by simp)
  have hn:=hx.row ho g (zBd.2 rfl)
  have hg:∀j u,(mvC x)[j]?=some u→w.cell? ⟨g,P.length * 3+j,none⟩=some u:=fun j u hj=>hc _ _ (by
    rw [zEw];exact zEv _ _ _ _ _ _ (by rw [zDd]) hj)
  exact ⟨g,c,e,⟨hl,hg 0 _ rfl,hg 1 _ rfl,hg 2 _ rfl,hf _,hf _⟩,fun q=>hn (List.mem_append_left _ (zBd.2 q)),fun q=>hn (List.mem_append_right _ (zBd.2 q))⟩
theorem NewB.old {w:World} {u v:Value} (h:NewB w u v) {b:Nat} (hb:b∈blk v):b∈blk u∨w.heap.size≤b:=by
 rw [zBd] at hb
 rcases h with h|⟨k,h,hk⟩
 ·exact .inl (zBd.2 (h▸hb))
 ·rw [h] at hb;cases hb;exact .inr hk
theorem zQi {w0 w:World} {p x y:MV} (h:Apart p x) (hp:MR w0 w p) (hu:NewB w x.u y.u) (hd:NewB w x.d y.d):Apart p y:=
 ⟨fun b hb c=>by rcases hu.old c with c|c;exact h.1 b hb c;have:=hp.lt.1 b hb;omega,fun b hb c=>by rcases hd.old c with c|c;exact h.2 b hb c;have:=hp.lt.2 b hb;omega⟩
theorem NowR.upd {w0 w W w':World} {Z:List Nat} {ms:List MV} {g c i:Nat} {x y:MV} (h:NowR w0 w Z (.slice (some ⟨g,0,none⟩) ms.length c) ms) (hi:ms[i]?=some x) (hm:Mod (blk x.u++blk x.d) w W) (hs:Stored g (i * 3) x y W w') (hy:MR w0 W y)
    (hl:y.m.label=x.m.label) (hu:NewB w x.u y.u) (hd:NewB w x.d y.d) (hZ:∀z∈Z,z<w.heap.size) :
    NowR w0 w' Z (.slice (some ⟨g,0,none⟩) ms.length c) (ms.set i y)∧∃X,Mod X w w'∧∀b∈X,b∉Z:=by
  obtain ⟨P,R,rfl,rfl⟩:=zKo hi
  have e1:(P++x::R).set P.length y=P++y::R:=by rw [List.set_append_right _ _ (Nat.le_refl _)];simp
  have e2:(P++y::R).length=(P++x::R).length:=by simp
  rw [e1]
  have hx:=h.mr x (by simp)
  have hgb:∀b,(Value.slice (some ⟨g,0,none⟩) (P++x::R).length c).ownBlock=some b→b∉blk x.u++blk x.d:=fun b hb=>hx.row h.own b (zBd.2 hb)
  have hW:=zEm h.own hm hgb
  have hoth:∀p∈P++R,Apart p x:=by
    have:=h.dis
    rw [List.pairwise_append,List.pairwise_cons] at this
    intro p hp
    rcases List.mem_append.1 hp with hp|hp
    · exact this.2.2 p hp x (List.mem_cons_self ..)
    · exact (this.2.1.1 p hp).symm
  have hmo:∀p∈P++R,MR w0 w p:=fun p hp=>h.mr p (by rcases List.mem_append.1 hp with hp|hp<;>simp [hp])
  have hmW:∀p∈P++R,MR w0 W p:=fun p hp=>by
    have k:=hmo p hp;have a:=hoth p hp;have q:=k.ud hx
    exact k.mod hm (fun b hb c=>by rcases List.mem_append.1 c with c|c;exact a.1 b hb c;exact q.1 b hb c) (fun b hb c=>by rcases List.mem_append.1 c with c|c;exact q.2 b hb c;exact a.2 b hb c)
  have hstep:w'.ownsRow w0.heap.size 52 3 (.slice (some ⟨g,0,none⟩) (P++x::R).length c) (P++x::R).length ((P++y::R).flatMap mvC)∧Mod [g] W w':=by
    rw [zEw] at hW ⊢
    rcases hs with ⟨rfl,k1,k2⟩|⟨rfl,k2⟩|⟨rfl,k1⟩
    · have:mvC y=mvC x:=by unfold mvC;rw [k1,k2,hl]
      rw [this];exact ⟨hW,Mod.refl _ _⟩
    · have:=zFl hW (P.length * 3+1) y.u
      rw [zDh _ _ _ _ 1 _ (by rw [zDd]) (by show _<3;omega)] at this
      have e:(mvC x).set 1 y.u=mvC y:=by unfold mvC;rw [k2,hl];rfl
      rw [e] at this
      exact ⟨this,(Mod.refl [g] W).setCell (by simp) _⟩
    · have:=zFl hW (P.length * 3+2) y.d
      rw [zDh _ _ _ _ 2 _ (by rw [zDd]) (by show _<3;omega)] at this
      have e:(mvC x).set 2 y.d=mvC y:=by unfold mvC;rw [k1,hl];rfl
      rw [e] at this
      exact ⟨this,(Mod.refl [g] W).setCell (by simp) _⟩
  obtain ⟨hrow,hmg⟩:=hstep
  have hgo:∀p,MR w0 W p→MR w0 w' p:=fun p k=>by
    have q:=k.row hW g (zBd.2 rfl)
    exact k.mod hmg (fun b hb c=>q (List.mem_append_left _ (by simp at c;rw [←c];exact hb))) (fun b hb c=>q (List.mem_append_right _ (by simp at c;rw [←c];exact hb)))
  have hav:=h.av.2 x (by simp)
  have hgZ:g∉Z:=h.av.1 g (zBd.2 rfl)
  have hM1:Mod (g::(blk x.u++blk x.d)) w w':=(hm.mono (fun k hk=>List.mem_cons_of_mem _ hk)).trans (hmg.mono (fun k hk=>by simp at hk;simp [hk]))
  have hlo:∀b∈g::(blk x.u++blk x.d),w0.heap.size≤b:=by
    obtain ⟨xs,q1,-⟩:=hx.decls
    intro b hb
    rcases List.mem_cons.1 hb with rfl|hb
    · exact (h.own.lt _ rfl).1
    rcases List.mem_append.1 hb with hb|hb
    · exact (hx.uses.lt b (zBd.1 hb)).1
    · exact (q1.lt b (zBd.1 hb)).1
  refine ⟨⟨h.old.trans (hM1.upto h.old.size hlo),by rw [e2];exact hrow,fun p hp=>?_,?_,h.av.1,fun p hp=>?_⟩,_,hM1,fun b hb=>?_⟩
  · rcases List.mem_append.1 hp with hp|hp
    · exact hgo p (hmW p (List.mem_append_left _ hp))
    · rcases List.mem_cons.1 hp with rfl|hp
      · exact hgo _ hy
      · exact hgo p (hmW p (List.mem_append_right _ hp))
  · have hd0:=h.dis
    rw [List.pairwise_append,List.pairwise_cons] at hd0 ⊢
    refine ⟨hd0.1,⟨fun p hp=>(zQi (hoth p (List.mem_append_right _ hp)) (hmo p (List.mem_append_right _ hp)) hu hd).symm,hd0.2.1.2⟩,fun p hp q hq=>?_⟩
    rcases List.mem_cons.1 hq with rfl|hq
    · exact zQi (hoth p (List.mem_append_left _ hp)) (hmo p (List.mem_append_left _ hp)) hu hd
    · exact hd0.2.2 p hp q (List.mem_cons_of_mem _ hq)
  · rcases List.mem_append.1 hp with hp|hp
    · exact h.av.2 p (by simp [hp])
    · rcases List.mem_cons.1 hp with rfl|hp
      · exact ⟨fun b hb c=>by rcases hu.old hb with q|q;exact hav.1 b q c;have:=hZ b c;omega,fun b hb c=>by rcases hd.old hb with q|q;exact hav.2 b q c;have:=hZ b c;omega⟩
      · exact h.av.2 p (by simp [hp])
  · rcases List.mem_cons.1 hb with rfl|hb
    · exact hgZ
    rcases List.mem_append.1 hb with hb|hb
    · exact hav.1 b hb
    · exact hav.2 b hb
def newMV (s:ByteArray):MV:=⟨⟨s,[],[]⟩,.slice none 0 0,.slice none 0 0⟩
theorem yDy {s:ByteArray} {b:Nat} {P:Prop} (h:b∈blk (newMV s).u):P:=(List.not_mem_nil h).elim
theorem yDz {s:ByteArray} {b:Nat} {P:Prop} (h:b∈blk (newMV s).d):P:=(List.not_mem_nil h).elim
theorem NowR.lo {w0 w:World} {Z:List Nat} {v:Value} {ms:List MV} (h:NowR w0 w Z v ms):∀b∈blk v,w0.heap.size≤b∧b<w.heap.size:=fun b hb=>h.own.lt b (zBd.1 hb)
theorem MR.off {w0 w w':World} {x:MV} {B n:Nat} {v:Value} {xs:List Value} (h:MR w0 w x) (k:w.ownsRow B 52 3 v n xs) (m:Mod (blk v) w w'):MR w0 w' x:=
 h.mod m (fun b hb c=>h.row k b c (List.mem_append_left _ hb)) (fun b hb c=>h.row k b c (List.mem_append_right _ hb))
theorem yFg (ms:List MV) (p:Nat) (y:MV):(ms.set p y).map MV.m=(ms.map MV.m).set p y.m:=List.map_set
structure SzD (d:ODecl):Prop where
 sm:SmD d
 nodes:nodesN d.body≤1000000
 rng:inR d.id
structure SzM (n:Nat) (m:OMod):Prop where
 label:m.label.size≤40000
 uses:∀s∈m.uses,s.size≤40000
 ulen:m.uses.length≤n
 decls:∀d∈m.decls,SzD d
 dlen:m.decls.length≤n
structure SzL (n:Nat) (l:List OMod):Prop where
 len:l.length≤n
 mods:∀m∈l,SzM n m
structure SzE (e:OEdit):Prop where
 sm:SmE e
 old:∀d∈e.old,inR d.id
 fresh:∀d∈e.fresh,inR d.id
theorem SzM.sm {n:Nat} {m:OMod} (h:SzM n m) (hn:n≤1000000):SmM m:=⟨h.label,h.uses,Nat.le_trans h.ulen hn,fun d hd=>(h.decls d hd).sm,Nat.le_trans h.dlen hn⟩
theorem zBt {e:OEdit} (h:editErr e=0):(1≤e.kind∧e.kind≤9)∧e.old.length=oldsN e.kind∧e.fresh.length=newsN e.kind:=by
 unfold editErr at h;split at h
 case isFalse=>exact absurd h (by decide)
 case isTrue hk=>
  split at h
  case isFalse=>exact absurd h (by decide)
  case isTrue hf=>
   unfold fitsB at hf;split at hf
   case isFalse=>cases hf
   case isTrue hl=>exact ⟨hk,hl⟩
theorem yBt {e:OEdit} (h:editErr e=0) (h6:6≤e.kind):e.old.length=1:=by
 obtain ⟨⟨_,h9⟩,h1,_⟩:=zBt h;rw [h1];unfold oldsN
 repeat' split
 all_goals first|rfl|omega
theorem zId {e:OEdit} (h:editErr e=0) (h5:5≤e.kind) (h6:e.kind≠6):e.fresh.length=1:=by
 obtain ⟨⟨_,h9⟩,_,h1⟩:=zBt h;rw [h1];unfold newsN
 repeat' split
 all_goals first|rfl|omega
theorem yE {l:List ODecl} (h:l.length=1):dAt l 0∈l:=by
 match l,h with
 | [d],_=>exact List.mem_singleton.2 rfl
theorem zKp {α:Type} {l:List α} {p:Nat} {x y:α} (h:x∈insAt l p y):x=y∨x∈l:=by
 unfold insAt at h
 rcases List.mem_append.1 h with h|h
 ·exact .inr (List.mem_of_mem_take h)
 rcases List.mem_cons.1 h with h|h
 ·exact .inl h
 ·exact .inr (List.mem_of_mem_drop h)
theorem zKq {α:Type} {l:List α} {p:Nat} {x:α} (h:x∈delAt l p):x∈l:=by
 unfold delAt at h
 rcases List.mem_append.1 h with h|h
 ·exact List.mem_of_mem_take h
 ·exact List.mem_of_mem_drop h
theorem zOd {α:Type} (l:List α) (p:Nat) (x:α):(insAt l p x).length≤l.length+1:=by
 unfold insAt;simp only [List.length_append,List.length_take,List.length_cons,List.length_drop];omega
theorem zOe {α:Type} (l:List α) (p:Nat):(delAt l p).length≤l.length:=by
 unfold delAt;simp only [List.length_append,List.length_take,List.length_drop];omega
theorem SzD.set {k:Int} {d f:ODecl} (hd:SzD d) (hf:SzD f):SzD (setPart k d f):=by
 unfold setPart
 repeat' split
 ·exact ⟨⟨hf.sm.names,hf.sm.len,hd.sm.body,hd.sm.nodes⟩,hd.nodes,hd.rng⟩
 ·exact ⟨⟨hd.sm.names,hd.sm.len,hf.sm.body,hf.sm.nodes⟩,hf.nodes,hd.rng⟩
 ·exact ⟨⟨hd.sm.names,hd.sm.len,hd.sm.body,hd.sm.nodes⟩,hd.nodes,hd.rng⟩
theorem SzE.fd {e:OEdit} (h:SzE e) (h1:e.fresh.length=1):SzD (dAt e.fresh 0):=
 have hm:=yE h1
 ⟨(h.sm.fresh _ hm).1,(h.sm.fresh _ hm).2,h.fresh _ hm⟩
theorem SzM.mono {n k:Nat} {m:OMod} (h:SzM n m) (hk:n≤k):SzM k m:=⟨h.label,h.uses,Nat.le_trans h.ulen hk,h.decls,Nat.le_trans h.dlen hk⟩
theorem SzM.step {n:Nat} {m:OMod} {e:OEdit} (h:SzM n m) (he:SzE e) (h0:editErr e=0) (h3:3≤e.kind):SzM (n+1) (inMod m e).1:=by
 have hm:=h.mono (Nat.le_succ n);unfold inMod;split
 ·split
  ·exact hm
  ·exact ⟨h.label,fun s hs=>by rcases zKp hs with rfl|q;exact he.sm.text;exact h.uses s q,Nat.le_trans (zOd _ _ _) (Nat.succ_le_succ h.ulen),h.decls,hm.dlen⟩
 split
 ·split
  ·exact ⟨h.label,fun s hs=>h.uses s (zKq hs),Nat.le_trans (zOe _ _) hm.ulen,h.decls,hm.dlen⟩
  ·exact hm
 split
 case isTrue h5=>
  split
  ·exact hm
  ·exact ⟨h.label,h.uses,hm.ulen,fun s hs=>by rcases zKp hs with rfl|q;exact he.fd (zId h0 (by omega) (by omega));exact h.decls s q,Nat.le_trans (zOd _ _ _) (Nat.succ_le_succ h.dlen)⟩
 case isFalse h5=>
  split
  ·exact hm
  case h_2 d hd=>
   have hdm:=(zO yDv hd).1;split
   ·split
    case isTrue=>exact ⟨h.label,h.uses,hm.ulen,fun s hs=>h.decls s (zKq hs),Nat.le_trans (zOe _ _) hm.dlen⟩
    case isFalse h6=>
     refine ⟨h.label,h.uses,hm.ulen,fun s hs=>?_,by show (List.set _ _ _).length≤_;rw [List.length_set];exact hm.dlen⟩
     rcases List.mem_or_eq_of_mem_set hs with q|rfl
     ·exact h.decls s q
     ·exact (h.decls d hdm).set (he.fd (zId h0 (by omega) h6))
   ·exact hm
theorem SzL.mono {n k:Nat} {l:List OMod} (h:SzL n l) (hk:n≤k):SzL k l:=⟨Nat.le_trans h.len hk,fun m hm=>(h.mods m hm).mono hk⟩
theorem SzL.step {n:Nat} {l:List OMod} {e:OEdit} (h:SzL n l) (he:SzE e) (h0:editErr e=0):SzL (n+1) (oneL l e).1:=by
 have hl:=h.mono (Nat.le_succ n);unfold oneL;split
 ·split
  ·exact ⟨Nat.le_trans (zOd _ _ _) (Nat.succ_le_succ h.len),fun m hm=>by
    rcases zKp hm with rfl|q
    ·exact ⟨he.sm.pack,fun _ h=>(List.not_mem_nil h).elim,Nat.zero_le _,fun _ h=>(List.not_mem_nil h).elim,Nat.zero_le _⟩
    ·exact hl.mods m q⟩
  ·exact hl
 case h_2 m hm=>
  have hmm:=(zO zOa hm).1;split
  ·exact hl
  split
  ·split
   ·exact ⟨Nat.le_trans (zOe _ _) hl.len,fun m hm=>hl.mods m (zKq hm)⟩
   ·exact hl
  ·obtain ⟨⟨h1,_⟩,_⟩:=zBt h0
   refine ⟨by show (List.set _ _ _).length≤_;rw [List.length_set];exact hl.len,fun q hq=>?_⟩
   rcases List.mem_or_eq_of_mem_set hq with q'|rfl
   ·exact hl.mods q q'
   ·exact (h.mods m hmm).step he h0 (by omega)
theorem yDg {l:List ODecl} (h:∀d∈l,inR d.id):inR (dAt l 0).id:=by
 match l with
 | []=>exact ⟨by decide,by decide⟩
 | d::r=>exact h d (List.mem_cons_self ..)
theorem yEa {n:Nat} {x:MV} {e:OEdit} (h:SzM n x.m) (he:SzE e):EffD x e:=⟨fun d hd=>(h.decls d hd).rng,yDg he.old,yDg he.fresh⟩
structure SzB (n:Nat) (l:List OMod):Prop where
  len:l.length≤n
  mods:∀m∈l,(m.label.size≤40000∧(∀s∈m.uses,s.size≤40000)∧m.uses.length≤n∧m.decls.length≤n)∧∀d∈m.decls,SmD d∧nodesN d.body≤1000000
theorem SzB.sm {n:Nat} {l:List OMod} (h:SzB n l) (hn:n≤1000000):∀m∈l,SmM m:=fun m hm=>
 have ⟨⟨h1,h2,h3,h4⟩,h5⟩:=h.mods m hm
 ⟨h1,h2,by omega,fun d hd=>(h5 d hd).1,by omega⟩
theorem zMs {f:Nat→Int} {n i:Nat} (h:nzFrom f n i=0):∀j,i≤j→j<n→f j=0:=by
 intro j hij hj
 induction hk:n - i generalizing i with
 | zero=>omega
 | succ k ih=>
  rw [zBn f (show i<n by omega)] at h
  by_cases h0:f i=0
  ·rw [if_pos h0] at h
   rcases Nat.eq_or_lt_of_le hij with rfl|hlt
   ·exact h0
   ·exact ih h hlt (by omega)
  ·rw [if_neg h0] at h
   exact absurd h h0
theorem yBu {label:ByteArray} {d:ODecl} (h:declErr label d=0):inR d.id:=by
 unfold declErr at h;split at h
 ·exact absurd h (by decide)
 split at h
 case isFalse h2=>exact absurd h h2
 rename_i h2
 unfold rDeclErr at h2;split at h2
 ·exact absurd h2 (by decide)
 ·unfold inR;omega
theorem zYu {m:OMod} (h:modErr m=0):∀d∈m.decls,inR d.id:=by
 unfold modErr at h;intro d hd;split at h
 case isFalse=>exact absurd h (by decide)
 split at h
 case isFalse hu=>exact absurd h hu
 split at h
 case isFalse hu=>exact absurd h hu
 split at h
 ·exact absurd h (by decide)
 obtain ⟨i,hi,rfl⟩:=List.getElem_of_mem hd;have h1:=zMs h i (Nat.zero_le _) hi;unfold declAt at h1;rw [zDi (List.getElem?_eq_getElem hi)] at h1
 by_cases h0:declErr m.label m.decls[i]=0
 ·exact yBu h0
 ·first|(rw [if_neg h0] at h1;exact absurd h1 h0)|(simp [h0] at h1)
theorem zTy {l:List OMod} (h:testErr l=0):∀m∈l,modErr m=0:=by
 intro m hm;obtain ⟨i,hi,rfl⟩:=List.getElem_of_mem hm;have h1:=zMs h i (Nat.zero_le _) hi
 (try simp only at h1)
 rwa [zF (List.getElem?_eq_getElem hi)] at h1
theorem zYv {l:List OMod} (h:modsErr l=0):testErr l=0:=by
 unfold modsErr at h;split at h
 ·exact h
 ·exact absurd h (by decide)
theorem SzB.valid {n:Nat} {l:List OMod} (h:SzB n l) (h0:modsErr l=0):SzL n l:=
 ⟨h.len,fun m hm=>
  have ⟨⟨h1,h2,h3,h4⟩,h5⟩:=h.mods m hm
  ⟨h1,h2,h3,fun d hd=>⟨(h5 d hd).1,(h5 d hd).2,zYu (zTy (zYv h0) m hm) d hd⟩,h4⟩⟩
theorem yBv (k:Int) (d:ODecl):(compD k d).id=d.id:=rfl
theorem yBw {e:OEdit} (h:editErr e=0) (h5:5≤e.kind):∀d∈e.old++e.fresh,inR d.id:=by
 have hk:=(zBt h).1;unfold editErr at h;rw [if_pos hk] at h;split at h
 case isFalse=>exact absurd h (by decide)
 intro d hd
 have hm:(⟨e.pack,[],[compD e.kind d]⟩:OMod)∈testsOf e:=by
  unfold testsOf;rw [if_neg (by omega),if_neg (by omega)];exact List.mem_map.2 ⟨d,hd,rfl⟩
 have:=zYu (zTy h _ hm) (compD e.kind d) (List.mem_singleton.2 rfl);rwa [yBv] at this
theorem zQj {e:OEdit} (h:editErr e=0) (h5:¬5≤e.kind):e.old=[]∧e.fresh=[]:=by
 obtain ⟨⟨h1,h9⟩,h2,h3⟩:=zBt h
 constructor
 ·apply List.eq_nil_of_length_eq_zero;rw [h2];unfold oldsN;repeat' split
  all_goals first|rfl|omega
 ·apply List.eq_nil_of_length_eq_zero;rw [h3];unfold newsN;repeat' split
  all_goals first|rfl|omega
theorem zYw {e:OEdit} (h:SmE e) (h0:editErr e=0):SzE e:=by
 by_cases h5:5≤e.kind
 ·have hp:=yBw h0 h5
  exact ⟨h,fun d hd=>hp d (List.mem_append_left _ hd),fun d hd=>hp d (List.mem_append_right _ hd)⟩
 ·obtain ⟨ho,hf⟩:=zQj h0 h5
  exact ⟨h,fun d hd=>by rw [ho] at hd;exact (List.not_mem_nil hd).elim,fun d hd=>by rw [hf] at hd;exact (List.not_mem_nil hd).elim⟩
end Go.Proofs.YtfkjfdbjhlmjcaaGreatDoor
