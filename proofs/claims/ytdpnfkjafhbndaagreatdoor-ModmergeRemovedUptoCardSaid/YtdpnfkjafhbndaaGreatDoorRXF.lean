/- exprmerge.conflicts: how often its iterator hands out; Conflicts, Clean. -/
import Derived.Test.YtdpnfkjafhbndaaGreatDoorRXE
import Derived.Test.YtdpnfkjafhbndaaGreatDoorRNC
import Derived.Test.YtdpnfkjafhbndaaGreatDoorRSyK
namespace Go.Proofs.YtdpnfkjafhbndaaGreatDoor
open Go.RowKit Go.Shelf
attribute [local go_sem] Oper.semAt_some
def sumC:List (List Ex)→Nat
 | [] => 0
 | s :: r => confL s + sumC r
def sumN:List (List Ex)→Nat
 | [] => 0
 | s :: r => nodesL s + sumN r
theorem conf_nodes (x:Ex):confX x≤nodesN x:=by
 refine Ex.ind (P:=fun x => confX x≤nodesN x) (fun x ih => ?_) x;rw [confX_eq,nodesN_eq]
 have:∀ l:List Ex,(∀ y∈l,confX y≤nodesN y)→confL l≤nodesL l:=by
  intro l
  induction l with
  | nil => intro _;exact Nat.le_refl _
  | cons y r ihr =>
   intro h;rw [confL,nodesL];have h1:=h y (List.mem_cons_self ..);have h2:=ihr fun z hz => h z (List.mem_cons_of_mem _ hz);omega
 have:=this _ ih;split <;> omega
theorem xconfl_any (x:Ex) (a:Option Addr) (c:Nat) (w:World):Calls Tryz.prog 187 #[exV x a c] w fun e w' =>
  e = .returned (.func (.func 228) #[] #[.pointer (some ⟨w.heap.size,0,none⟩)])∧w.alloc (.cells (xA x a c) 66) = w':=by
 unfold exV
 go_enter Tryz.func187,Tryz.ntmps187
 go_wp2;go_ret;exact ⟨rfl,rfl⟩
def oneArg (_:Nat) (args:Array Value) (_:World):Prop:=∃ v,args = #[v]
set_option maxRecDepth 100000 in
set_option maxHeartbeats 6000000 in
theorem xconfl1_iter (x:Ex) (a:Option Addr) (c:Nat) (w:World) (Be:Nat) (X:List Nat) (hX:∀ k,k∈X→k < w.heap.size)
  (hbox:CBox w Be 66 (xA x a c)) (hr:Reads w X (subsT x.subs) (.slice a x.subs.length c)) (hN:nodesN x≤4000000) :
  IterR Fence.wide 4 Tryz.prog 228 #[.pointer (some ⟨Be,0,none⟩)] (confX x) oneArg (KpX X) (AbN w.heap.size) w:=by
 intro l J Jx W hW hJ hJx hY h0;have hsz:=hW.size;have hbW:=hbox.below hW;have hrW:=hr.below hW;obtain ⟨i0,hi,hz0,hz1,hz2⟩:=info_parts infoSubs;have HY:=lH hY;have HJ:=lH hJ;have HJx:=lH hJx;have hpos:=nodesN_pos x;have d0:=hbW.cell (i:=0) rfl;have d1:=hbW.cell (i:=1) rfl;have d2:=hbW.cell (i:=2) rfl;have d3:=hbW.cell (i:=3) rfl;have d4:=hbW.cell (i:=4) rfl;have d5:=hbW.cell (i:=5) rfl;have dl:=hbW.lt;have hq:=qalloc W (.cells (xA x a c) 66)
 have hXW:Hid (∀ k,k∈X→k < (W.alloc (.cells (xA x a c) 66)).heap.size):=fun k hk => Nat.lt_of_lt_of_le (hX k hk) (Nat.le_trans hsz hq.size);have hsb:w.heap.size≤(W.alloc (.cells (xA x a c) 66)).heap.size:=Nat.le_trans hsz hq.size
 have hone:Reads (W.alloc (.cells (xA x a c) 66)) X (subsT [x]) (.slice (some ⟨W.heap.size,0,none⟩) 1 1):=by
  refine Reads.ofRow (f:=exprT) (l:=[x]) (xs:=_) ⟨rfl,some ⟨W.heap.size,0,none⟩,1,rfl,Nat.le_refl _,by unfold maxLen;omega,fun _ => ⟨W.heap.size,0,rfl,by rw [World.size_alloc];omega,fun j u hj => ?_⟩⟩ (fun _ k hk => by cases hk;exact fun h => absurd (hX W.heap.size h) (by omega)) (ReadsL.append (ReadsL.nil _ _) (cells_expr (hrW.below hq)));rw [Nat.zero_add];exact (CBox.new W 66 (xA x a c)).cell (i:=j) (v:=u) (by rw [List.getElem?_toArray];simpa using hj)
 have hJ1:=hJ 0 W _ h0 (AbN.alloc W (.cells (xA x a c) 66));clear hY hJ hJx hW hbox hr h0 hq hrW hbW;show CallsIn Fence.wide 4 Tryz.prog 228 #[.func (.yield l) #[] #[],.pointer (some ⟨Be,0,none⟩)] W _
 refine callsIn_of_wp Tryz.func228 rfl trivial ?_ rfl;simp only [Tryz.ntmps228,List.size_toArray,List.length_cons,List.length_nil,Nat.reduceAdd,Nat.reduceSub,Array.replicate_succ,Array.replicate_zero,List.push_toArray,List.append_toArray,List.nil_append,List.cons_append]
 have hO4:=own_one (W.alloc (.cells (xA x a c) 66)) (W.alloc (.cells (xA x a c) 66)).heap.size (Nat.le_refl _) (.slice (some ⟨W.heap.size,0,none⟩) 1 1) 64;have hK4:KpX X (W.alloc (.cells (xA x a c) 66)) _:=KpX.below (qalloc (W.alloc (.cells (xA x a c) 66)) (.cells #[.slice (some ⟨W.heap.size,0,none⟩) 1 1] 64));have hJ4:=HJ.out 0 _ _ hJ1 (AbN.alloc (W.alloc (.cells (xA x a c) 66)) (.cells #[.slice (some ⟨W.heap.size,0,none⟩) 1 1] 64));rw [World.size_alloc] at hO4 hsb;simp only [World.size_alloc] at hXW
 gi_upto_region 1 with (fail)
 generalize hWb:W.alloc (.cells (xA x a c) 66) = Wb at *;have hBs:Wb.heap.size = W.heap.size + 1:=by rw [← hWb,World.size_alloc]
 generalize World.alloc Wb _ = W4 at *;clear hWb d0 d1 d2 d3 d4 d5 dl hJ1;generalize hBB:W.heap.size + 1 = B at *;clear hBB
 gi_loopg [3,4] (2 * nodesN x + 1) (fun g ov _ wr => ∃ (j:Nat) (st:List (List Ex)) (xs:List Value),wr.ownsRow B 64 1 ov st.length xs∧Hid (ReadsL Wb X (st.reverse.map subsT) xs)∧KpX X Wb wr∧Hid (j + sumC st = confX x)∧st.length + sumN st≤nodesN x + 1∧J j wr∧g = 2 * sumN st + st.length)
 case atStart => exact ⟨0,[[x]],_,hO4,ReadsL.cons hone (ReadsL.nil _ _),hK4,by show _ = _;simp [sumC,confL],by simp [sumN,nodesL];omega,hJ4,by simp [sumN,nodesL]⟩
 case round =>
  obtain ⟨j,st,xs,hown,HV,hkp,HC,hsk,hJk,hg⟩:=hrel;obtain ⟨oa,oc,rfl⟩:=owns_val hown;clear hO4 hK4 hJ4 hone
  cases st with
  | nil =>
   have hj:j = confX x:=by have:=HC.out;simpa [sumC] using this
   subst hj
   gi_wp2
   go_end0
   exact ⟨⟨_,rfl⟩,.inl hJk⟩
  | cons top r =>
   obtain ⟨ys,u,rfl,HV1,hu⟩:=readsL_snoc (show ReadsL Wb X (r.reverse.map subsT ++ [subsT top]) xs by have:=HV.out;simpa using this);have hyl:ys.length = r.length:=by have:=HV1.len;simpa using this
   have HV2:=lH HV1;obtain ⟨ta,tc,rfl,ht1,ht2⟩:=subs_val hu;obtain ⟨g,cur,rfl,hcell,hgB,hgl,hgf,hoc,hoc2,hheap⟩:=owns_cell hown (i:=r.length) (u:=.slice ta top.length tc) (by rw [List.getElem?_append_right (by omega),hyl,Nat.sub_self];rfl);have hgB9:Wb.heap.size≤g:=by omega
   have hrl:r.length + 1≤4000001:=by simp at hsk;omega
   have hw1:IntKind.i64.wrap (((r.length:Int) + 1) - 1) = (r.length:Int):=by rw [Int.add_sub_cancel];exact IntWalk.i64_in _ (by omega)
   have hr0:(0:Int)≤(r.length:Int):=by omega
   have hr1:(r.length:Int) < (r.length:Int) + 1:=by omega
   have hr2:(r.length:Int)≤(oc:Int):=by simp at hoc;omega
   have hoc':r.length + 1≤oc:=by simpa using hoc
   cases top with
   | nil =>
    have hpop:=owns_pop (xs:=ys) (n:=r.length) hown hyl;have HDp:Hid (j + sumC r = confX x):=by have:=HC.out;show _ = _;simp only [sumC,confL,Nat.zero_add] at this;exact this
    have hsk':r.length + sumN r≤nodesN x + 1:=by simp [sumN,nodesL] at hsk;omega
    have hgg:=hg;simp only [sumN,nodesL,List.length_cons,Nat.zero_add] at hgg
    simp only [List.length_cons,List.length_nil] at hown hg hcell ⊢
    clear hown HV hu
    gi_wp2
    go_roundg (2 * sumN r + r.length)
    all_goals first | omega | exact ⟨j,r,ys,hpop,HV2,hkp,HDp,hsk',hJk,rfl⟩
   | cons y s =>
    obtain ⟨b,o,sa,sc,rfl,hbl,c0,c1,c2,c3,c4,c5,hs1,hs2,hsr⟩:=subs_elem hu (i:=0) (x:=y) rfl
    have hbX:b ∉ X:=by
     have h:=hu;rw [subsT,rowT,Reads] at h;obtain ⟨_,_,h2,_⟩:=h;exact h2 (by simp) b rfl
    simp only [Nat.zero_mul,Nat.add_zero] at c0 c1 c2 c3 c4 c5
    replace hbl:b < wr.heap.size:=Nat.lt_of_lt_of_le hbl hkp.size;replace c0:=hkp.cell hbX c0;replace c1:=hkp.cell hbX c1;replace c2:=hkp.cell hbX c2;replace c3:=hkp.cell hbX c3;replace c4:=hkp.cell hbX c4;replace c5:=hkp.cell hbX c5
    have HCn:Hid (j + (if y.kind = 15 then 1 else 0) + sumC (y.subs :: s :: r) = confX x):=by
     have:=HC.out;show _ = _
     simp only [sumC,confL,confX_eq y] at this ⊢
     omega
    have hns:nodesN y = 1 + nodesL y.subs:=nodesN_eq y;have hsn':(y.subs :: s :: r).length + sumN (y.subs :: s :: r)≤nodesN x + 1:=by simp only [sumN,nodesL,List.length_cons] at hsk ⊢;omega
    have hgg:=hg;simp only [sumN,nodesL,List.length_cons] at hgg
    have hsum:sumN (y.subs :: s :: r) = nodesL y.subs + (nodesL s + sumN r):=rfl;simp only [List.length_cons] at ht1 hown hcell hg hsk hu
    have hs0:(0:Int)≤(s.length:Int):=by omega
    have hsn:¬ (s.length:Int) + 1 = 0:=by omega
    rcases Nat.lt_or_ge 1 tc with h1c | h1c
    ·have HVr:Hid (Reads Wb X (subsT s) (.slice (some ⟨b,o + 6,none⟩) s.length (tc - 1))):=Reads.dropRow (size:=6) (f:=exprT) exprT_len (i:=1) hu (by simp)
     have hown5:=(owns_set hown hyl (.slice (some ⟨b,o + 6,none⟩) s.length (tc - 1))).alloc (.cells (xA y sa sc) 66);have hk5:=(hkp.fresh (p:=⟨g,r.length,none⟩) (by show _≤g;omega) (.slice (some ⟨b,o + 6,none⟩) s.length (tc - 1))).alloc (.cells (xA y sa sc) 66);have hJ5:=HJ.out j wr _ hJk (((AbN.refl w.heap.size wr).set (p:=⟨g,r.length,none⟩) (Nat.le_trans hsb hgB) hheap (.slice (some ⟨b,o + 6,none⟩) s.length (tc - 1))).trans (AbN.alloc _ (.cells (xA y sa sc) 66)))
     have hb5:CBox ((wr.setCell ⟨g,r.length,none⟩ (.slice (some ⟨b,o + 6,none⟩) s.length (tc - 1))).alloc (.cells (xA y sa sc) 66)) wr.heap.size 66 (xA y sa sc):=by
      have:=CBox.new (wr.setCell ⟨g,r.length,none⟩ (.slice (some ⟨b,o + 6,none⟩) s.length (tc - 1))) 66 (xA y sa sc);rwa [show (wr.setCell ⟨g,r.length,none⟩ (.slice (some ⟨b,o + 6,none⟩) s.length (tc - 1))).heap.size = wr.heap.size by simp [World.setCell]] at this
     gi_upto_region 7 with (fail)
     generalize (wr.setCell ⟨g,r.length,none⟩ (.slice (some ⟨b,o + 6,none⟩) s.length (tc - 1))).alloc (.cells (xA y sa sc) 66) = W5 at *;have HB5:=lH hb5;have HO5:=lH hown5;have hszr:=hkp.size;generalize hV:wr.heap.size = V at *;obtain ⟨f0,f1,f2,f3,f4,f5,fl⟩:=cells6 hb5;clear hb5 hown5 c0 c1 c2 c3 c4 c5 hcell hheap hV
     by_cases hk15:y.kind = 15
     ·rw [if_pos hk15] at HCn
      have k15:(y.kind == 15) = true:=by rw [hk15];rfl
      have hj:j < confX x:=by have:=HCn.out;omega
      have hy:=HY.out j hj #[exV y sa sc] _ hJ5 ⟨_,rfl⟩;obtain ⟨fn,tmps,assign,body,hy,hR⟩:=hy;unfold exV at hy;clear hk15
      gi_wp2
      refine hR.mono ?_;rintro e W7 (⟨rfl,hJ7,hk7⟩ | ⟨rfl,hJx7⟩)
      rotate_left
      ·clear hR hy
       gi_wp2
       refine bodyPost_ret (results_none rfl _ _ _) rfl ?_;exact ⟨⟨_,rfl⟩,.inr ⟨j + 1,by omega,hJx7⟩⟩
      have hb7:CBox W7 V 66 _:=hk7.box (fun hx => by have:=hXW.out _ hx;omega) HB5.out;have hown7:=owns_kp HO5.out hk7 hXW.out;have e5:=hb7.cell (i:=5) (v:=.slice sa y.subs.length sc) rfl;have el:=hb7.lt;have hk8:=(hk5.trans hk7).alloc (.cells #[.slice sa y.subs.length sc] 64);have hs8:=hk8.size;rw [World.size_alloc] at hs8;clear hR hy f0 f1 f2 f3 f4 f5 fl hb7 HB5 HO5 hbl hgf hgl
      gi_wp2_with (gi_at_builtin;refine wpListIn_append_own _ rfl _ _ 233 rfl B 64 i0 _ 1 24 Tryz.underlying233 hi hz0 hz1 hz2 rfl (by decide) _ _ _ rfl (hown7.alloc _) ⟨W7.heap.size,0,none⟩ 1 1 [.slice sa y.subs.length sc] rfl rfl (cell_one_new _ _ _) (by simp [Value.oneCell']) (by unfold maxLen;omega) (by omega) (by rw [World.size_alloc];omega) ?_;intro v' w1 hown' hgrow _)
      have HK:=hk8.grown hgrow (fun b' e' => by cases e';exact hgB9)
      have HJ8:=HJ.out (j + 1) W7 _ hJ7 ((AbN.alloc W7 (.cells #[.slice sa y.subs.length sc] 64)).grown hgrow (fun b' e' => by
       cases e'
       obtain ⟨g2,cur2,e2,_,_,_,_,_,_,h2⟩:=owns_cell (hown7.alloc (.cells #[.slice sa y.subs.length sc] 64)) (i:=r.length) (u:=.slice (some ⟨b,o + 6,none⟩) s.length (tc - 1)) (by rw [List.getElem?_append_right (by omega),hyl,Nat.sub_self];rfl)
       cases e2
       exact ⟨Nat.le_trans hsb hgB,_,_,_,h2⟩))
      go_roundg (2 * sumN (y.subs :: s :: r) + (r.length + 1 + 1))
      all_goals first | omega | exact ⟨j + 1,y.subs :: s :: r,_,hown',by simpa [Hid] using ReadsL.append (ReadsL.cons hsr.out (ReadsL.nil _ _)) (ReadsL.append (ReadsL.cons HVr.out (ReadsL.nil _ _)) HV2.out),HK,HCn,hsn',HJ8,rfl⟩
     ·rw [if_neg hk15,Nat.add_zero] at HCn
      have k15:(y.kind == 15) = false:=by simpa using hk15
      have hk8:=hk5.alloc (.cells #[.slice sa y.subs.length sc] 64);have hs8:=hk8.size;rw [World.size_alloc] at hs8;have hown7:=HO5.out;clear hk15 HB5 HO5 hbl hgf hgl;refine wpIn_wide.2 ?_;go_wp2_with (fail)
      gi_wp2_with (gi_at_builtin;refine wpListIn_append_own _ rfl _ _ 233 rfl B 64 i0 _ 1 24 Tryz.underlying233 hi hz0 hz1 hz2 rfl (by decide) _ _ _ rfl (hown7.alloc _) ⟨W5.heap.size,0,none⟩ 1 1 [.slice sa y.subs.length sc] rfl rfl (cell_one_new _ _ _) (by simp [Value.oneCell']) (by unfold maxLen;omega) (by omega) (by rw [World.size_alloc];omega) ?_;intro v' w1 hown' hgrow _)
      have HK:=hk8.grown hgrow (fun b' e' => by cases e';exact hgB9)
      have HJ8:=HJ.out j W5 _ hJ5 ((AbN.alloc W5 (.cells #[.slice sa y.subs.length sc] 64)).grown hgrow (fun b' e' => by
       cases e'
       obtain ⟨g2,cur2,e2,_,_,_,_,_,_,h2⟩:=owns_cell (hown7.alloc (.cells #[.slice sa y.subs.length sc] 64)) (i:=r.length) (u:=.slice (some ⟨b,o + 6,none⟩) s.length (tc - 1)) (by rw [List.getElem?_append_right (by omega),hyl,Nat.sub_self];rfl)
       cases e2
       exact ⟨Nat.le_trans hsb hgB,_,_,_,h2⟩))
      go_roundg (2 * sumN (y.subs :: s :: r) + (r.length + 1 + 1))
      all_goals first | omega | exact ⟨j,y.subs :: s :: r,_,hown',by simpa [Hid] using ReadsL.append (ReadsL.cons hsr.out (ReadsL.nil _ _)) (ReadsL.append (ReadsL.cons HVr.out (ReadsL.nil _ _)) HV2.out),HK,HCn,hsn',HJ8,rfl⟩
    ·obtain rfl:tc = 1:=by omega
     obtain rfl:s = []:=List.eq_nil_of_length_eq_zero (by omega);have HVr:Hid (Reads Wb X (subsT []) (.slice (some ⟨b,o,none⟩) 0 0)):=reads_noSubs _ _ _ _ (by omega);have hown5:=(owns_set hown hyl (.slice (some ⟨b,o,none⟩) 0 0)).alloc (.cells (xA y sa sc) 66);have hk5:=(hkp.fresh (p:=⟨g,r.length,none⟩) (by show _≤g;omega) (.slice (some ⟨b,o,none⟩) 0 0)).alloc (.cells (xA y sa sc) 66)
     have hJ5:=HJ.out j wr _ hJk (((AbN.refl w.heap.size wr).set (p:=⟨g,r.length,none⟩) (Nat.le_trans hsb hgB) hheap (.slice (some ⟨b,o,none⟩) 0 0)).trans (AbN.alloc _ (.cells (xA y sa sc) 66)))
     have hb5:CBox ((wr.setCell ⟨g,r.length,none⟩ (.slice (some ⟨b,o,none⟩) 0 0)).alloc (.cells (xA y sa sc) 66)) wr.heap.size 66 (xA y sa sc):=by
      have:=CBox.new (wr.setCell ⟨g,r.length,none⟩ (.slice (some ⟨b,o,none⟩) 0 0)) 66 (xA y sa sc);rwa [show (wr.setCell ⟨g,r.length,none⟩ (.slice (some ⟨b,o,none⟩) 0 0)).heap.size = wr.heap.size by simp [World.setCell]] at this
     gi_upto_region 7 with (fail)
     generalize (wr.setCell ⟨g,r.length,none⟩ (.slice (some ⟨b,o,none⟩) 0 0)).alloc (.cells (xA y sa sc) 66) = W5 at *;have HB5:=lH hb5;have HO5:=lH hown5;have hszr:=hkp.size;generalize hV:wr.heap.size = V at *;obtain ⟨f0,f1,f2,f3,f4,f5,fl⟩:=cells6 hb5;clear hb5 hown5 c0 c1 c2 c3 c4 c5 hcell hheap hV
     by_cases hk15:y.kind = 15
     ·rw [if_pos hk15] at HCn
      have k15:(y.kind == 15) = true:=by rw [hk15];rfl
      have hj:j < confX x:=by have:=HCn.out;omega
      have hy:=HY.out j hj #[exV y sa sc] _ hJ5 ⟨_,rfl⟩;obtain ⟨fn,tmps,assign,body,hy,hR⟩:=hy;unfold exV at hy;clear hk15
      gi_wp2
      refine hR.mono ?_;rintro e W7 (⟨rfl,hJ7,hk7⟩ | ⟨rfl,hJx7⟩)
      rotate_left
      ·clear hR hy
       gi_wp2
       refine bodyPost_ret (results_none rfl _ _ _) rfl ?_;exact ⟨⟨_,rfl⟩,.inr ⟨j + 1,by omega,hJx7⟩⟩
      have hb7:CBox W7 V 66 _:=hk7.box (fun hx => by have:=hXW.out _ hx;omega) HB5.out;have hown7:=owns_kp HO5.out hk7 hXW.out;have e5:=hb7.cell (i:=5) (v:=.slice sa y.subs.length sc) rfl;have el:=hb7.lt;have hk8:=(hk5.trans hk7).alloc (.cells #[.slice sa y.subs.length sc] 64);have hs8:=hk8.size;rw [World.size_alloc] at hs8;clear hR hy f0 f1 f2 f3 f4 f5 fl hb7 HB5 HO5 hbl hgf hgl
      gi_wp2_with (gi_at_builtin;refine wpListIn_append_own _ rfl _ _ 233 rfl B 64 i0 _ 1 24 Tryz.underlying233 hi hz0 hz1 hz2 rfl (by decide) _ _ _ rfl (hown7.alloc _) ⟨W7.heap.size,0,none⟩ 1 1 [.slice sa y.subs.length sc] rfl rfl (cell_one_new _ _ _) (by simp [Value.oneCell']) (by unfold maxLen;omega) (by omega) (by rw [World.size_alloc];omega) ?_;intro v' w1 hown' hgrow _)
      have HK:=hk8.grown hgrow (fun b' e' => by cases e';exact hgB9)
      have HJ8:=HJ.out (j + 1) W7 _ hJ7 ((AbN.alloc W7 (.cells #[.slice sa y.subs.length sc] 64)).grown hgrow (fun b' e' => by
       cases e'
       obtain ⟨g2,cur2,e2,_,_,_,_,_,_,h2⟩:=owns_cell (hown7.alloc (.cells #[.slice sa y.subs.length sc] 64)) (i:=r.length) (u:=.slice (some ⟨b,o,none⟩) 0 0) (by rw [List.getElem?_append_right (by omega),hyl,Nat.sub_self];rfl)
       cases e2
       exact ⟨Nat.le_trans hsb hgB,_,_,_,h2⟩))
      go_roundg (2 * sumN (y.subs :: [] :: r) + (r.length + 1 + 1))
      all_goals first | omega | exact ⟨j + 1,y.subs :: [] :: r,_,hown',by simpa [Hid] using ReadsL.append (ReadsL.cons hsr.out (ReadsL.nil _ _)) (ReadsL.append (ReadsL.cons HVr.out (ReadsL.nil _ _)) HV2.out),HK,HCn,hsn',HJ8,rfl⟩
     ·rw [if_neg hk15,Nat.add_zero] at HCn
      have k15:(y.kind == 15) = false:=by simpa using hk15
      have hk8:=hk5.alloc (.cells #[.slice sa y.subs.length sc] 64);have hs8:=hk8.size;rw [World.size_alloc] at hs8;have hown7:=HO5.out;clear hk15 HB5 HO5 hbl hgf hgl;refine wpIn_wide.2 ?_;go_wp2_with (fail)
      gi_wp2_with (gi_at_builtin;refine wpListIn_append_own _ rfl _ _ 233 rfl B 64 i0 _ 1 24 Tryz.underlying233 hi hz0 hz1 hz2 rfl (by decide) _ _ _ rfl (hown7.alloc _) ⟨W5.heap.size,0,none⟩ 1 1 [.slice sa y.subs.length sc] rfl rfl (cell_one_new _ _ _) (by simp [Value.oneCell']) (by unfold maxLen;omega) (by omega) (by rw [World.size_alloc];omega) ?_;intro v' w1 hown' hgrow _)
      have HK:=hk8.grown hgrow (fun b' e' => by cases e';exact hgB9)
      have HJ8:=HJ.out j W5 _ hJ5 ((AbN.alloc W5 (.cells #[.slice sa y.subs.length sc] 64)).grown hgrow (fun b' e' => by
       cases e'
       obtain ⟨g2,cur2,e2,_,_,_,_,_,_,h2⟩:=owns_cell (hown7.alloc (.cells #[.slice sa y.subs.length sc] 64)) (i:=r.length) (u:=.slice (some ⟨b,o,none⟩) 0 0) (by rw [List.getElem?_append_right (by omega),hyl,Nat.sub_self];rfl)
       cases e2
       exact ⟨Nat.le_trans hsb hgB,_,_,_,h2⟩))
      go_roundg (2 * sumN (y.subs :: [] :: r) + (r.length + 1 + 1))
      all_goals first | omega | exact ⟨j,y.subs :: [] :: r,_,hown',by simpa [Hid] using ReadsL.append (ReadsL.cons hsr.out (ReadsL.nil _ _)) (ReadsL.append (ReadsL.cons HVr.out (ReadsL.nil _ _)) HV2.out),HK,HCn,hsn',HJ8,rfl⟩
end Go.Proofs.YtdpnfkjafhbndaaGreatDoor

