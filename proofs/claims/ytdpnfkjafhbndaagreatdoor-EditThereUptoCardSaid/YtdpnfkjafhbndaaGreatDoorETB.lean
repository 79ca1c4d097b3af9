/- syntax.nodes: the iterator over the nodes of an expression with their depths. syntax.nodes: what its iterator hands out. -/
import Derived.Test.YtdpnfkjafhbndaaGreatDoorEG1
import Derived.Test.YtdpnfkjafhbndaaGreatDoorETA
import Derived.IntWalk
import Derived.Sort.LoopGhostIn
import Derived.Maps.AppendAt
namespace Go.Proofs.YtdpnfkjafhbndaaGreatDoor
open Go.RowKit Go.Shelf
attribute [local go_sem] Oper.semAt_some
section
variable {w:World} {B:Nat} {e:TypeId} {n cap:Nat} {ad:Option Addr} {xs:List Value} {u:Value}
theorem owns_cell (h:w.ownsRow B e 1 (.slice ad n cap) n xs) {i:Nat} (hi:xs[i]? = some u) :
  ∃ g cur,ad = some ⟨g,0,none⟩∧w.cell? ⟨g,i,none⟩ = some u∧B≤g∧g < w.heap.size∧w.frozen? ⟨g,i,none⟩ = false∧n≤cap∧cap≤9223372036854775807∧w.heap[g]? = some (.cells cur e (0,0)):=by
 obtain ⟨hl,h2⟩:=h
 rcases h2 with ⟨hv,rfl⟩ | ⟨g,cap',cur,hv,hg,hh,hn,hc,hs,ht⟩
 ·have:xs = []:=List.eq_nil_of_length_eq_zero (by omega)
  rw [this] at hi;cases hi
 ·injection hv with e1 e2 e3
  subst e1 e3;have hlt:=(Array.getElem?_eq_some_iff.1 hh).1;refine ⟨g,cur,rfl,?_,hg,hlt,?_,hn,by unfold maxLen at hc;omega,hh⟩
  ·have hix:i < xs.length:=(List.getElem?_eq_some_iff.1 hi).1
   rw [← ht,List.getElem?_take,if_pos (by omega)] at hi;have hi':cur[i]? = some u:=by rw [← Array.getElem?_toList];exact hi
   exact CBox.cell (B:=g) hh hi'
  ·exact CBox.frozen (B:=g) hh i
theorem owns_pop {g:Nat} (h:w.ownsRow B e 1 (.slice (some ⟨g,0,none⟩) (n + 1) cap) (n + 1) (xs ++ [u])) (hn:xs.length = n):w.ownsRow B e 1 (.slice (some ⟨g,0,none⟩) n cap) n xs:=by
 obtain ⟨hl,h2⟩:=h
 rcases h2 with ⟨hv,h0⟩ | ⟨g',cap',cur,hv,hg,hh,hn',hc,hs,ht⟩
 ·omega
 ·injection hv with e1 e2 e3
  injection e1 with e1
  injection e1 with e1
  subst e1 e3;refine ⟨by omega,.inr ⟨g,cap,cur,rfl,hg,hh,by omega,hc,hs,?_⟩⟩;have:=congrArg (List.take n) ht;rw [List.take_take,Nat.mul_one] at this;rw [Nat.mul_one,show min n (n + 1) = n by omega] at *;rw [this,← hn,List.take_left]
theorem owns_set {g:Nat} (h:w.ownsRow B e 1 (.slice (some ⟨g,0,none⟩) (n + 1) cap) (n + 1) (xs ++ [u])) (hn:xs.length = n) (u':Value):(w.setCell ⟨g,n,none⟩ u').ownsRow B e 1 (.slice (some ⟨g,0,none⟩) (n + 1) cap) (n + 1) (xs ++ [u']):=by
 obtain ⟨hl,h2⟩:=h
 rcases h2 with ⟨hv,h0⟩ | ⟨g',cap',cur,hv,hg,hh,hn',hc,hs,ht⟩
 ·omega
 ·injection hv with e1 e2 e3
  injection e1 with e1
  injection e1 with e1
  subst e1 e3;refine ⟨by simp [hn],.inr ⟨g,cap,cur.setIfInBounds n u',rfl,hg,heap_setCell_at hh n u',hn',hc,by simpa using hs,?_⟩⟩;rw [Array.toList_setIfInBounds,Nat.mul_one] at *;have hlt:n < cur.toList.length:=by rw [Array.length_toList];omega
  rw [List.take_set];rw [ht];rw [List.set_append_right _ _ (by omega),hn,Nat.sub_self];rfl
end
theorem KpX.fresh {X:List Nat} {A B:World} (h:KpX X A B) {p:Addr} (hp:A.heap.size≤p.block) (u:Value):KpX X A (B.setCell p u):=
 ⟨by simpa [World.setCell] using h.size,fun b cs t m hb ho => by
  have:=(Array.getElem?_eq_some_iff.1 ho).1
  rw [Below.heap_setCell _ _ _ _ (by omega)];exact h.block b cs t m hb ho⟩
theorem KpX.alloc {X:List Nat} {A B:World} (h:KpX X A B) (o:Obj):KpX X A (B.alloc o):=h.trans (KpX.below (qalloc B o))
theorem KpX.grown {X:List Nat} {A B C:World} (h:KpX X A B) {row:Option Nat} (g:B.grownBy C row) (hr:∀ b,row = some b→A.heap.size≤b):KpX X A C:=
 ⟨Nat.le_trans h.size g.size,fun b cs t m hb ho => by
  have h1:=h.block b cs t m hb ho;have:=(Array.getElem?_eq_some_iff.1 ho).1
  exact (g.block b (Array.getElem?_eq_some_iff.1 h1).1 (fun e => by have:=hr b e.symm;omega)).trans h1⟩
theorem owns_kp {X:List Nat} {w w':World} {B:Nat} {e:TypeId} {v:Value} {n:Nat} {xs:List Value} (h:w.ownsRow B e 1 v n xs) (m:KpX X w w') (hx:∀ k,k∈X→k < B):w'.ownsRow B e 1 v n xs:=by
 obtain ⟨h1,h2⟩:=h;refine ⟨h1,?_⟩
 rcases h2 with h2 | ⟨g,cap,cur,h3,h4,h5,h6⟩
 ·exact .inl h2
 ·exact .inr ⟨g,cap,cur,h3,h4,m.block g _ _ _ (fun hk => by have:=hx g hk;omega) h5,h6⟩
def flatR:List (List Ex)→List (Nat × Ex)
 | [] => []
 | s :: r => preL s (r.length + 2) ++ flatR r
theorem flatR_push (y:Ex) (s:List Ex) (r:List (List Ex)):flatR ((y :: s) :: r) = (r.length + 2,y) :: flatR (y.subs :: s :: r):=by
 rw [flatR,preL,preN_eq,flatR,flatR];simp [List.append_assoc]
theorem flatR_start (x:Ex):preN x 1 = (1,x) :: flatR [x.subs]:=by rw [preN_eq,flatR,flatR];simp
def nodeArg (x:Ex) (k:Nat) (args:Array Value) (W:World):Prop:=
  ∃ (d:Nat) (y:Ex) (a:Option Addr) (c:Nat),(preN x 1)[k]? = some (d,y)∧args = #[.int .i64 d,exV y a c]∧y.subs.length≤c∧c≤9223372036854775807∧Reads W [] (subsT y.subs) (.slice a y.subs.length c)
theorem drop_get {α:Type} {l:List α} {k:Nat} {x:α} {r:List α} (h:l.drop k = x :: r):l[k]? = some x∧l.drop (k + 1) = r∧k < l.length:=by
 have hk:k < l.length:=by
  rcases Nat.lt_or_ge k l.length with h' | h'
  ·exact h'
  ·rw [List.drop_eq_nil_of_le h'] at h;cases h
 rw [List.drop_eq_getElem_cons hk] at h
 injection h with h1 h2
 exact ⟨by rw [List.getElem?_eq_getElem hk,h1],h2,hk⟩
theorem nodes_any (x:Ex) (a:Option Addr) (c:Nat) (w:World):Calls Tryz.prog 207 #[exV x a c] w fun e w' =>
  e = .returned (.func (.func 240) #[] #[.pointer (some ⟨w.heap.size,0,none⟩)])∧w.alloc (.cells #[.int .i64 x.kind,.string x.name,.string x.more,.int .i64 x.num,.int .i64 x.den,.slice a x.subs.length c] 66) = w':=by
 unfold exV
 go_enter Tryz.func207,Tryz.ntmps207
 go_wp2;go_ret;exact ⟨rfl,rfl⟩
theorem infoSubs:(Tryz.prog.info? 64).map (fun i => (i.zero,i.size,i.bytes)) = some (some (.slice none 0 0),1,24):=by kernel_rfl
theorem readsL_snoc {w:World} {X:List Nat} {d:Tree}:∀ {ds:List Tree} {xs:List Value},ReadsL w X (ds ++ [d]) xs→∃ ys u,xs = ys ++ [u]∧ReadsL w X ds ys∧Reads w X d u
 | [],xs,h => by
  obtain ⟨x,rest,rfl,h1,h2⟩:=ReadsL.inv h;rw [ReadsL] at h2;subst h2;exact ⟨[],x,rfl,ReadsL.nil _ _,h1⟩
 | e :: ds,xs,h => by
  obtain ⟨x,rest,rfl,h1,h2⟩:=ReadsL.inv h;obtain ⟨ys,u,rfl,h3,h4⟩:=readsL_snoc h2;exact ⟨x :: ys,u,rfl,ReadsL.cons h1 h3,h4⟩
theorem reads_noSubs (w:World) (X:List Nat) (a:Option Addr) (c:Nat) (hc:c≤9223372036854775807):Reads w X (subsT []) (.slice a 0 c):=by
 rw [subsT,rowT,Reads];exact ⟨[],⟨by simp,a,c,rfl,Nat.zero_le _,by unfold maxLen;omega,fun h => absurd h (Nat.lt_irrefl _)⟩,fun h => absurd h (Nat.lt_irrefl _),by simp [ReadsL]⟩
theorem own_one (w:World) (B:Nat) (hB:B≤w.heap.size) (u:Value) (t:TypeId):(w.alloc (.cells #[u] t)).ownsRow B t 1 (.slice (some ⟨w.heap.size,0,none⟩) 1 1) 1 [u]:=
 ⟨rfl,.inr ⟨w.heap.size,1,#[u],rfl,hB,World.alloc_heap_new _ _,Nat.le_refl _,by unfold maxLen;omega,rfl,rfl⟩⟩
set_option maxRecDepth 100000 in
set_option maxHeartbeats 6000000 in
theorem nodes1_iter (x:Ex) (a:Option Addr) (c:Nat) (w:World) (Be:Nat) (X:List Nat) (hX:∀ k,k∈X→k < w.heap.size) (hBe:Be ∉ X)
  (hbox:CBox w Be 66 #[.int .i64 x.kind,.string x.name,.string x.more,.int .i64 x.num,.int .i64 x.den,.slice a x.subs.length c]) (hr:Reads w X (subsT x.subs) (.slice a x.subs.length c)) (hc1:x.subs.length≤c) (hc2:c≤9223372036854775807) (hN:nodesN x≤4000000) :
  IterR Fence.wide 4 Tryz.prog 240 #[.pointer (some ⟨Be,0,none⟩)] (nodesN x) (nodeArg x) (KpX X) (AbN w.heap.size) w:=by
 intro l J Jx W hW hJ hJx hY h0;have hsz:=hW.size;have hbW:=hbox.below hW;have hrW:=hr.below hW;have hXW:Hid (∀ k,k∈X→k < W.heap.size):=fun k hk => Nat.lt_of_lt_of_le (hX k hk) hsz;obtain ⟨i0,hi,hz0,hz1,hz2⟩:=info_parts infoSubs;have HY:=lH hY;have HJ:=lH hJ;have HJx:=lH hJx;have HP:=lH (flatR_start x);have hlen:(preN x 1).length = nodesN x:=pre_len x 1;have hpos:=nodesN_pos x;clear hY hJ hJx hW hbox hr;show CallsIn Fence.wide 4 Tryz.prog 240 #[.func (.yield l) #[] #[],.pointer (some ⟨Be,0,none⟩)] W _
 refine callsIn_of_wp Tryz.func240 rfl trivial ?_ rfl;simp only [Tryz.ntmps240,List.size_toArray,List.length_cons,List.length_nil,Nat.reduceAdd,Nat.reduceSub,Array.replicate_succ,Array.replicate_zero,List.push_toArray,List.append_toArray,List.nil_append,List.cons_append]
 have d0:=hbW.cell (i:=0) rfl;have d1:=hbW.cell (i:=1) rfl;have d2:=hbW.cell (i:=2) rfl;have d3:=hbW.cell (i:=3) rfl;have d4:=hbW.cell (i:=4) rfl;have d5:=hbW.cell (i:=5) rfl;have dl:=hbW.lt;have hy:=HY.out 0 (by omega) #[.int .i64 1,exV x a c] W h0 ⟨1,x,a,c,by rw [HP.out];rfl,rfl,hc1,hc2,hrW.fewer (fun _ h => by cases h)⟩;obtain ⟨fn,tmps,assign,body,hy,hR⟩:=hy;unfold exV at hy
 gi_wp2
 refine hR.mono ?_;rintro e W3 (⟨rfl,hJ3,hk3⟩ | ⟨rfl,hJx3⟩)
 rotate_left
 ·gi_wp2
  refine bodyPost_ret (results_none rfl _ _ _) rfl ?_;exact ⟨⟨_,rfl⟩,.inr ⟨1,by omega,hJx3⟩⟩
 have hb3:CBox W3 Be 66 _:=hk3.box hBe hbW;have e5:=hb3.cell (i:=5) rfl;have el:=hb3.lt;clear hR hy d0 d1 d2 d3 d4 d5 dl hb3;have hO4:=own_one W3 W.heap.size hk3.size (.slice a x.subs.length c) 64;have hK4:=hk3.alloc (.cells #[.slice a x.subs.length c] 64);have hJ4:=HJ.out 1 W3 _ hJ3 (AbN.alloc W3 (.cells #[.slice a x.subs.length c] 64))
 gi_wp2
 generalize hw4:W3.alloc (.cells #[.slice a x.subs.length c] 64) = W4 at *;clear hw4 hJ3 hk3 e5 el
 gi_loopg [3,4] (2 * (nodesN x - 1) + 1) (fun g ov _ wr => ∃ (k:Nat) (st:List (List Ex)) (xs:List Value),wr.ownsRow W.heap.size 64 1 ov st.length xs∧Hid (ReadsL W X (st.reverse.map subsT) xs)∧KpX X W wr∧Hid ((preN x 1).drop k = flatR st)∧st.length≤k∧k≤nodesN x∧J k wr∧g = 2 * (nodesN x - k) + st.length)
 case atStart => exact ⟨1,[x.subs],_,hO4,ReadsL.cons hrW (ReadsL.nil _ _),hK4,by show _ = _;rw [HP.out];rfl,Nat.le_refl _,hpos,hJ4,rfl⟩
 case round =>
  obtain ⟨k,st,xs,hown,HV,hkp,HD,hsk,hkN,hJk,hg⟩:=hrel;obtain ⟨oa,oc,rfl⟩:=owns_val hown;clear hO4 hK4 hJ4
  cases st with
  | nil =>
   have hk:k = nodesN x:=by
    have:=congrArg List.length HD.out;rw [List.length_drop,hlen] at this;simp [flatR] at this
    omega
   subst hk
   gi_wp2
   go_end0
   exact ⟨⟨_,rfl⟩,.inl hJk⟩
  | cons top r =>
   obtain ⟨ys,u,rfl,HV1,hu⟩:=readsL_snoc (show ReadsL W X (r.reverse.map subsT ++ [subsT top]) xs by have:=HV.out;simpa using this);have hyl:ys.length = r.length:=by have:=HV1.len;simpa using this
   have HV2:=lH HV1;obtain ⟨ta,tc,rfl,ht1,ht2⟩:=subs_val hu;obtain ⟨g,cur,rfl,hcell,hgB,hgl,hgf,hoc,hoc2,hheap⟩:=owns_cell hown (i:=r.length) (u:=.slice ta top.length tc) (by rw [List.getElem?_append_right (by omega),hyl,Nat.sub_self];rfl);have hrl:r.length + 1≤4000000:=by simp at hsk;omega
   have hw1:IntKind.i64.wrap (((r.length:Int) + 1) - 1) = (r.length:Int):=by rw [Int.add_sub_cancel];exact IntWalk.i64_in _ (by omega)
   have hr0:(0:Int)≤(r.length:Int):=by omega
   have hr1:(r.length:Int) < (r.length:Int) + 1:=by omega
   have hr2:(r.length:Int)≤(oc:Int):=by simp at hoc;omega
   have hoc':r.length + 1≤oc:=by simpa using hoc
   cases top with
   | nil =>
    have hpop:=owns_pop (xs:=ys) (n:=r.length) hown hyl;have HDp:Hid ((preN x 1).drop k = flatR r):=HD.out;have hsk':r.length≤k:=by simp at hsk;omega
    simp only [List.length_cons,List.length_nil] at hown hg hcell ⊢
    clear hown HV hu
    gi_wp2
    go_roundg (2 * (nodesN x - k) + r.length)
    all_goals first | omega | exact ⟨k,r,ys,hpop,HV2,hkp,HDp,hsk',hkN,hJk,rfl⟩
   | cons y s =>
    obtain ⟨b,o,sa,sc,rfl,hbl,c0,c1,c2,c3,c4,c5,hs1,hs2,hsr⟩:=subs_elem hu (i:=0) (x:=y) rfl
    have hbX:b ∉ X:=by
     have h:=hu;rw [subsT,rowT,Reads] at h;obtain ⟨_,_,h2,_⟩:=h;exact h2 (by simp) b rfl
    simp only [Nat.zero_mul,Nat.add_zero] at c0 c1 c2 c3 c4 c5
    replace hbl:b < wr.heap.size:=Nat.lt_of_lt_of_le hbl hkp.size;replace c0:=hkp.cell hbX c0;replace c1:=hkp.cell hbX c1;replace c2:=hkp.cell hbX c2;replace c3:=hkp.cell hbX c3;replace c4:=hkp.cell hbX c4;replace c5:=hkp.cell hbX c5;simp only [List.length_cons] at ht1 hown hcell hg hsk hu
    have hs0:(0:Int)≤(s.length:Int):=by omega
    have hsn:¬ (s.length:Int) + 1 = 0:=by omega
    rcases Nat.lt_or_ge 1 tc with h1c | h1c
    ·have HVr:Hid (Reads W X (subsT s) (.slice (some ⟨b,o + 6,none⟩) s.length (tc - 1))):=Reads.dropRow (size:=6) (f:=exprT) exprT_len (i:=1) hu (by simp)
     have hget:=HD.out;rw [flatR_push] at hget;obtain ⟨hg1,hg2,hg3⟩:=drop_get hget;rw [hlen] at hg3;have HG2:Hid ((preN x 1).drop (k + 1) = flatR (y.subs :: s :: r)):=hg2;have hown5:=(owns_set hown hyl (.slice (some ⟨b,o + 6,none⟩) s.length (tc - 1))).alloc (.cells #[.int .i64 y.kind,.string y.name,.string y.more,.int .i64 y.num,.int .i64 y.den,.slice sa y.subs.length sc] 66)
     have hk5:=(hkp.fresh (p:=⟨g,r.length,none⟩) hgB (.slice (some ⟨b,o + 6,none⟩) s.length (tc - 1))).alloc (.cells #[.int .i64 y.kind,.string y.name,.string y.more,.int .i64 y.num,.int .i64 y.den,.slice sa y.subs.length sc] 66);have hJ5:=HJ.out k wr _ hJk (((AbN.refl w.heap.size wr).set (p:=⟨g,r.length,none⟩) (Nat.le_trans hsz hgB) hheap (.slice (some ⟨b,o + 6,none⟩) s.length (tc - 1))).trans (AbN.alloc _ (.cells #[.int .i64 y.kind,.string y.name,.string y.more,.int .i64 y.num,.int .i64 y.den,.slice sa y.subs.length sc] 66)))
     have hb5:CBox ((wr.setCell ⟨g,r.length,none⟩ (.slice (some ⟨b,o + 6,none⟩) s.length (tc - 1))).alloc (.cells #[.int .i64 y.kind,.string y.name,.string y.more,.int .i64 y.num,.int .i64 y.den,.slice sa y.subs.length sc] 66)) wr.heap.size 66 #[.int .i64 y.kind,.string y.name,.string y.more,.int .i64 y.num,.int .i64 y.den,.slice sa y.subs.length sc]:=by
      have:=World.alloc_heap_new (wr.setCell ⟨g,r.length,none⟩ (.slice (some ⟨b,o + 6,none⟩) s.length (tc - 1))) (.cells #[.int .i64 y.kind,.string y.name,.string y.more,.int .i64 y.num,.int .i64 y.den,.slice sa y.subs.length sc] 66);rwa [show (wr.setCell ⟨g,r.length,none⟩ (.slice (some ⟨b,o + 6,none⟩) s.length (tc - 1))).heap.size = wr.heap.size by simp [World.setCell]] at this
     have hy:=HY.out k hg3 #[.int .i64 ((r.length:Int) + 1 + 1),exV y sa sc] _ hJ5 ⟨r.length + 2,y,sa,sc,hg1,rfl,hs1,hs2,(hsr.out.kp hk5).fewer (fun _ h => by cases h)⟩;obtain ⟨fn,tmps,assign,body,hy,hR⟩:=hy;unfold exV at hy;have HB5:=lH hb5;have HO5:=lH hown5;clear hget hg1 hg2 hb5 hown5
     gi_wp2
     refine hR.mono ?_;rintro e W7 (⟨rfl,hJ7,hk7⟩ | ⟨rfl,hJx7⟩)
     rotate_left
     ·clear hR hy
      gi_wp2
      refine bodyPost_ret (results_none rfl _ _ _) rfl ?_;exact ⟨⟨_,rfl⟩,.inr ⟨k + 1,by omega,hJx7⟩⟩
     have hsz5:=hkp.size;have hb7:CBox W7 wr.heap.size 66 _:=hk7.box (fun hx => by have:=hXW.out _ hx;omega) HB5.out;have hown7:=owns_kp HO5.out hk7 hXW.out;have e5:=hb7.cell (i:=5) rfl;have el:=hb7.lt;have hk8:=(hk5.trans hk7).alloc (.cells #[.slice sa y.subs.length sc] 64);clear hR hy c0 c1 c2 c3 c4 c5 hcell hb7 HB5 HO5 hbl hgf hgl
     gi_wp2_with (gi_at_builtin;refine wpListIn_append_own _ rfl _ _ 233 rfl W.heap.size 64 i0 _ 1 24 Tryz.underlying233 hi hz0 hz1 hz2 rfl (by decide) _ _ _ rfl (hown7.alloc _) ⟨W7.heap.size,0,none⟩ 1 1 [.slice sa y.subs.length sc] rfl rfl (cell_one_new _ _ _) (by simp [Value.oneCell']) (by unfold maxLen;omega) (by omega) (by have:=hk8.size;simpa using this) ?_;intro v' w1 hown' hgrow _)
     have HK:=hk8.grown hgrow (fun b' e' => by cases e';exact hgB)
     have HJ8:=HJ.out (k + 1) W7 _ hJ7 ((AbN.alloc W7 (.cells #[.slice sa y.subs.length sc] 64)).grown hgrow (fun b' e' => by
      cases e'
      obtain ⟨g2,cur2,e2,_,_,_,_,_,_,h2⟩:=owns_cell (hown7.alloc (.cells #[.slice sa y.subs.length sc] 64)) (i:=r.length) (u:=.slice (some ⟨b,o + 6,none⟩) s.length (tc - 1)) (by rw [List.getElem?_append_right (by omega),hyl,Nat.sub_self];rfl)
      cases e2
      exact ⟨Nat.le_trans hsz hgB,_,_,_,h2⟩))
     go_roundg (2 * (nodesN x - (k + 1)) + (r.length + 1 + 1))
     all_goals first | omega | exact ⟨k + 1,y.subs :: s :: r,_,hown',by simpa [Hid] using ReadsL.append (ReadsL.cons hsr.out (ReadsL.nil _ _)) (ReadsL.append (ReadsL.cons HVr.out (ReadsL.nil _ _)) HV2.out),HK,HG2,by simp only [List.length_cons];omega,hg3,HJ8,rfl⟩
    ·obtain rfl:tc = 1:=by omega
     obtain rfl:s = []:=List.eq_nil_of_length_eq_zero (by omega);have HVr:Hid (Reads W X (subsT []) (.slice (some ⟨b,o,none⟩) 0 0)):=reads_noSubs _ _ _ _ (by omega);have hget:=HD.out;rw [flatR_push] at hget;obtain ⟨hg1,hg2,hg3⟩:=drop_get hget;rw [hlen] at hg3;have HG2:Hid ((preN x 1).drop (k + 1) = flatR (y.subs :: [] :: r)):=hg2;have hown5:=(owns_set hown hyl (.slice (some ⟨b,o,none⟩) 0 0)).alloc (.cells #[.int .i64 y.kind,.string y.name,.string y.more,.int .i64 y.num,.int .i64 y.den,.slice sa y.subs.length sc] 66)
     have hk5:=(hkp.fresh (p:=⟨g,r.length,none⟩) hgB (.slice (some ⟨b,o,none⟩) 0 0)).alloc (.cells #[.int .i64 y.kind,.string y.name,.string y.more,.int .i64 y.num,.int .i64 y.den,.slice sa y.subs.length sc] 66);have hJ5:=HJ.out k wr _ hJk (((AbN.refl w.heap.size wr).set (p:=⟨g,r.length,none⟩) (Nat.le_trans hsz hgB) hheap (.slice (some ⟨b,o,none⟩) 0 0)).trans (AbN.alloc _ (.cells #[.int .i64 y.kind,.string y.name,.string y.more,.int .i64 y.num,.int .i64 y.den,.slice sa y.subs.length sc] 66)))
     have hb5:CBox ((wr.setCell ⟨g,r.length,none⟩ (.slice (some ⟨b,o,none⟩) 0 0)).alloc (.cells #[.int .i64 y.kind,.string y.name,.string y.more,.int .i64 y.num,.int .i64 y.den,.slice sa y.subs.length sc] 66)) wr.heap.size 66 #[.int .i64 y.kind,.string y.name,.string y.more,.int .i64 y.num,.int .i64 y.den,.slice sa y.subs.length sc]:=by
      have:=World.alloc_heap_new (wr.setCell ⟨g,r.length,none⟩ (.slice (some ⟨b,o,none⟩) 0 0)) (.cells #[.int .i64 y.kind,.string y.name,.string y.more,.int .i64 y.num,.int .i64 y.den,.slice sa y.subs.length sc] 66);rwa [show (wr.setCell ⟨g,r.length,none⟩ (.slice (some ⟨b,o,none⟩) 0 0)).heap.size = wr.heap.size by simp [World.setCell]] at this
     have hy:=HY.out k hg3 #[.int .i64 ((r.length:Int) + 1 + 1),exV y sa sc] _ hJ5 ⟨r.length + 2,y,sa,sc,hg1,rfl,hs1,hs2,(hsr.out.kp hk5).fewer (fun _ h => by cases h)⟩;obtain ⟨fn,tmps,assign,body,hy,hR⟩:=hy;unfold exV at hy;have HB5:=lH hb5;have HO5:=lH hown5;clear hget hg1 hg2 hb5 hown5
     gi_wp2
     refine hR.mono ?_;rintro e W7 (⟨rfl,hJ7,hk7⟩ | ⟨rfl,hJx7⟩)
     rotate_left
     ·clear hR hy
      gi_wp2
      refine bodyPost_ret (results_none rfl _ _ _) rfl ?_;exact ⟨⟨_,rfl⟩,.inr ⟨k + 1,by omega,hJx7⟩⟩
     have hsz5:=hkp.size;have hb7:CBox W7 wr.heap.size 66 _:=hk7.box (fun hx => by have:=hXW.out _ hx;omega) HB5.out;have hown7:=owns_kp HO5.out hk7 hXW.out;have e5:=hb7.cell (i:=5) rfl;have el:=hb7.lt;have hk8:=(hk5.trans hk7).alloc (.cells #[.slice sa y.subs.length sc] 64);clear hR hy c0 c1 c2 c3 c4 c5 hcell hb7 HB5 HO5 hbl hgf hgl
     gi_wp2_with (gi_at_builtin;refine wpListIn_append_own _ rfl _ _ 233 rfl W.heap.size 64 i0 _ 1 24 Tryz.underlying233 hi hz0 hz1 hz2 rfl (by decide) _ _ _ rfl (hown7.alloc _) ⟨W7.heap.size,0,none⟩ 1 1 [.slice sa y.subs.length sc] rfl rfl (cell_one_new _ _ _) (by simp [Value.oneCell']) (by unfold maxLen;omega) (by omega) (by have:=hk8.size;simpa using this) ?_;intro v' w1 hown' hgrow _)
     have HK:=hk8.grown hgrow (fun b' e' => by cases e';exact hgB)
     have HJ8:=HJ.out (k + 1) W7 _ hJ7 ((AbN.alloc W7 (.cells #[.slice sa y.subs.length sc] 64)).grown hgrow (fun b' e' => by
      cases e'
      obtain ⟨g2,cur2,e2,_,_,_,_,_,_,h2⟩:=owns_cell (hown7.alloc (.cells #[.slice sa y.subs.length sc] 64)) (i:=r.length) (u:=.slice (some ⟨b,o,none⟩) 0 0) (by rw [List.getElem?_append_right (by omega),hyl,Nat.sub_self];rfl)
      cases e2
      exact ⟨Nat.le_trans hsz hgB,_,_,_,h2⟩))
     go_roundg (2 * (nodesN x - (k + 1)) + (r.length + 1 + 1))
     all_goals first | omega | exact ⟨k + 1,y.subs :: [] :: r,_,hown',by simpa [Hid] using ReadsL.append (ReadsL.cons hsr.out (ReadsL.nil _ _)) (ReadsL.append (ReadsL.cons HVr.out (ReadsL.nil _ _)) HV2.out),HK,HG2,by simp only [List.length_cons];omega,hg3,HJ8,rfl⟩
end Go.Proofs.YtdpnfkjafhbndaaGreatDoor

