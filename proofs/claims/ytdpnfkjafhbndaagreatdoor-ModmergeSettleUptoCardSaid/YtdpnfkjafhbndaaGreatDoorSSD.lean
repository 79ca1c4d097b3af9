/- The reference's settled is setX; its Settle. -/
import Derived.Test.YtdpnfkjafhbndaaGreatDoorSSA
import Derived.Test.YtdpnfkjafhbndaaGreatDoorSXG
import Derived.Test.YtdpnfkjafhbndaaGreatDoorSXC
namespace Go.Proofs.YtdpnfkjafhbndaaGreatDoor
open Go.RowKit Go.Shelf
attribute [local go_sem] Oper.semAt_some
structure SetTwo (T:Ex) (X:List Nat) (w:World) (e:Ending) (w':World):Prop where
 of ::
 out:∃ a c,e = .returned (exV T a c)∧ExIn w' X T a c∧Bw w w'
theorem take_snocX {l:List Ex} {t:Nat} {y:Ex} (h:l[t]? = some y):l.take (t + 1) = l.take t ++ [y]:=by
 obtain ⟨ht,rfl⟩:=List.getElem?_eq_some_iff.1 h;rw [List.take_add_one,List.getElem?_eq_getElem ht];rfl
theorem ownT_more {w v3:World} {E B n:Nat} {Y:List Nat} {vv v':Value} {L:List Ex} {z:Ex} {za:Option Addr} {zc:Nat} {xs:List Value} (h1:w.ownsRow B 66 6 vv L.length xs) (h2:ReadsL w (vv.ownBlock.toList ++ E :: Y) (L.flatMap exprT) xs) (h3:Reads w ((vv.ownBlock.toList ++ [E]) ++ Y) (subsT z.subs) (.slice za z.subs.length zc)) (hn:L.length = n)
  (ho:v3.ownsRow B 66 6 v' (n + 1) (xs ++ [.int .i64 z.kind,.string z.name,.string z.more,.int .i64 z.num,.int .i64 z.den,.slice za z.subs.length zc])) (hg:w.grownBy v3 vv.ownBlock) (hob:v'.ownBlock = vv.ownBlock∨v'.ownBlock = some w.heap.size):OwnT v3 (E :: Y) B 66 6 exprT v' (L ++ [z]):=by
 refine OwnT.grown (w:=w) h1 h2 (cells_expr (h3.fewer (fun k hk => ?_))) (by rw [hn];exact ho) hg hob
 rcases List.mem_append.1 hk with hk | hk
 ·exact List.mem_append_left _ (List.mem_append_left _ hk)
 ·rcases List.mem_cons.1 hk with rfl | hk
  ·exact List.mem_append_left _ (List.mem_append_right _ (List.mem_singleton.2 rfl))
  ·exact List.mem_append_right _ hk
structure SetAt (k:Nat) (l:List Ex) (j t q:Nat) (L:List Ex):Prop where
  len:L.length = t
  eq:L = setXL k (l.take t) j
  bd:q≤1000000
  idx:(confL (l.take t)≤j∧q + confL (l.take t) = j)∨(j < confL (l.take t)∧400≤q + confL (l.take t))
theorem SetAt.zero (k:Nat) (l:List Ex) {j:Nat} (hj:j≤1000000):SetAt k l j 0 j []:=⟨rfl,by rw [List.take_zero,setXL],hj,.inl ⟨by rw [List.take_zero,confL];omega,by rw [List.take_zero,confL];omega⟩⟩
theorem SetAt.yes {k:Nat} {l:List Ex} {j t q:Nat} {L:List Ex} {y:Ex} (h:SetAt k l j t q L) (hy:l[t]? = some y) (hl:confL l < 400) (hq:q < confX y):SetAt k l j (t + 1) 400 (L ++ [setX k y q]):=by
 have h1:=(setXL_step k hy j).2;have h2:confL (l.take (t + 1))≤confL l:=confL_take_le l (t + 1)
 rcases h.idx with ⟨h3,h4⟩ | ⟨h3,h4⟩
 ·refine ⟨by rw [List.length_append,h.len];rfl,?_,by have:=h.bd;omega,.inr ⟨by omega,by omega⟩⟩
  rw [setXL_next k hy h3,h.eq,setXL_ge k _ _ h3,show q = j - confL (l.take t) by omega]
 ·omega
theorem SetAt.no {k:Nat} {l:List Ex} {j t q:Nat} {L:List Ex} {y:Ex} (h:SetAt k l j t q L) (hy:l[t]? = some y) (hq:¬ q < confX y):SetAt k l j (t + 1) (q - confX y) (L ++ [y]):=by
 have h1:=(setXL_step k hy j).2
 rcases h.idx with ⟨h3,h4⟩ | ⟨h3,h4⟩
 ·refine ⟨by rw [List.length_append,h.len];rfl,?_,by have:=h.bd;omega,.inl ⟨by omega,by omega⟩⟩
  rw [setXL_next k hy h3,h.eq,setXL_ge k _ _ h3,setX_ge k (by omega)]
 ·refine ⟨by rw [List.length_append,h.len];rfl,?_,by have:=h.bd;omega,.inr ⟨by omega,by omega⟩⟩
  rw [take_snocX hy,setXL_left k _ _ _ h3,h.eq]
theorem SetAt.all {k:Nat} {l:List Ex} {j q:Nat} {L:List Ex} (h:SetAt k l j l.length q L):L = setXL k l j:=by
 have:=h.eq;rwa [List.take_length] at this
set_option maxRecDepth 100000 in
set_option maxHeartbeats 16000000 in
theorem r32settled_any (k:Nat) (hk:k < 3) (x:Ex):∀ (i:Nat) (a:Option Addr) (c:Nat) (X:List Nat) (w:World),(∀ k,k∈X→k < w.heap.size)→ExIn w X x a c→ValX x→nodesN x≤400→i≤1000000 →
  Calls Tryz.prog 198 #[exV x a c,.int .i64 i,.int .i64 k] w (SetTwo (setX k x i) X w):=by
 refine Ex.ind (P:=fun x => ∀ (i:Nat) (a:Option Addr) (c:Nat) (X:List Nat) (w:World),(∀ k,k∈X→k < w.heap.size)→ExIn w X x a c→ValX x→nodesN x≤400→i≤1000000 →
  Calls Tryz.prog 198 #[exV x a c,.int .i64 i,.int .i64 k] w (SetTwo (setX k x i) X w)) (fun x ih => ?_) x
 intro i a c X w hX hx hv hN hI;have HIH:=lH ih;have HXX:=lH hX;have HXI:=lH hx;have HVX:=lH hv;have HSX:=lH (setX_eq k x i);have hnn:=nodesN_eq x;have hnl:=nodesL_len x.subs
 have HCL:Hid (confL x.subs < 400):=by
  have h1:=conf_nodes x
  have h2:∀ l:List Ex,confL l≤nodesL l:=by
   intro l
   induction l with
   | nil => exact Nat.le_refl _
   | cons y r ihr => rw [confL,nodesL];have:=conf_nodes y;omega
  have:=h2 x.subs;show _ < _
  omega
 have hkI:(k:Int) < 3:=by omega
 clear ih hX hx hv;have gx:CBox ((w.alloc (.cells (xA x a c) 66)).alloc (.cells xZ 66)) w.heap.size 66 (xA x a c):=(CBox.new w 66 _).alloc _;have go:=CBox.new (w.alloc (.cells (xA x a c) 66)) 66 xZ;rw [World.size_alloc] at go;have hA:Bw w ((w.alloc (.cells (xA x a c) 66)).alloc (.cells xZ 66)):=qtrans (qalloc _ _) (qalloc _ _);have hs4:((w.alloc (.cells (xA x a c) 66)).alloc (.cells xZ 66)).heap.size = w.heap.size + 1 + 1:=by simp only [World.size_alloc]
 generalize setX k x i = T at *;unfold exV at *
 go_enter Tryz.func198,Tryz.ntmps198
 go_upto_region 1 with (fail)
 generalize ((w.alloc (.cells (xA x a c) 66)).alloc (.cells xZ 66)) = W0 at *;generalize hn3:w.heap.size + 1 = n3 at *;have m1:w.heap.size < n3:=by omega
 have hsW:n3 < W0.heap.size:=by omega
 clear hn3 hs4;have HXW:Hid (∀ W,Bw W0 W→∀ Y,(∀ k,k∈Y→W0.heap.size≤k)→ExIn W (Y ++ n3 :: w.heap.size :: X) x a c):=fun W hW Y hY => ((((HXI.out.more (k:=w.heap.size) (Nat.le_refl _)).more (k:=n3) (by omega)).below hA).mores Y hY).below hW;have Gx:=lH gx;have Go:=lH go;clear gx go;obtain ⟨x0,x1,x2,x3,x4,x5,xl⟩:=cells6 Gx.out
 by_cases hc:x.kind = 15∧i = 0
 ·obtain ⟨h15,h0⟩:=hc
  have hT:Hid (T = subAt x.subs k):=by show _ = _;rw [HSX.out,if_pos ⟨h15,h0⟩]
  have h3:=HVX.out.three h15;obtain ⟨y,hy⟩:∃ y,x.subs[k]? = some y:=⟨_,List.getElem?_eq_getElem (by omega)⟩;have HY:=lH (show subAt x.subs k = y by unfold subAt;rw [hy];rfl);have hxw:=(HXW.out W0 (qrefl _) [] (by simp)).subs;obtain ⟨b1,o1,ua,uc,rfl,hb1,c0,c1,c2,c3,c4,c5,hu1,hu2,hur⟩:=subs_elem hxw hy;have hkn:decide ((k:Int) < (x.subs.length:Int)) = true:=decide_eq_true (by omega);have hki:(k:Int) < (x.subs.length:Int):=by omega
  have hq1:(x.kind == 15) = true:=by rw [h15];rfl
  have hq2:((i:Int) == 0) = true:=by rw [h0];rfl
  have HUU:Hid (ExIn W0 (n3 :: w.heap.size :: X) y ua uc):=⟨hur.out,hu1,hu2⟩;clear h15 h0 hy hxw HSX HIH hur hu1 hu2 hnn hnl h3 hkI;obtain ⟨o0,o1,o2,o3,o4,o5,ol⟩:=cells6 Go.out;obtain ⟨fo0,fo1,fo2,fo3,fo4,fo5⟩:=frozen6 Go.out;go_wp2;clear o0 o1 o2 o3 o4 o5 fo0 fo1 fo2 fo3 fo4 fo5 ol x0 x1 x2 x3 x4 x5 xl c0 c1 c2 c3 c4 c5;obtain ⟨HC9,HM9⟩:=CBox.six (Go.out) (.int .i64 y.kind) (.string y.name) (.string y.more) (.int .i64 y.num) (.int .i64 y.den) (.slice ua y.subs.length uc);generalize World.setCell _ ⟨n3,5,none⟩ _ = W9 at *
  obtain ⟨r0,r1,r2,r3,r4,r5,-⟩:=cells6 HC9;refine bodyPost_ret (by simp [results,Tryz.results198,go_sem,r0,r1,r2,r3,r4,r5];try rfl) rfl ?_;have hd9:Bw w W9:=hA.trans (HM9.upto hA.size (by intro k hk;simp at hk;omega));have e1:T = y:=by rw [hT.out,HY.out]
  clear hT HY;subst e1;exact ⟨ua,uc,rfl,(HUU.out.mod (HM9.mono inC)).fewer (fun k hk => List.mem_cons_of_mem _ (List.mem_cons_of_mem _ hk)),hd9⟩
 ·obtain ⟨j,hj⟩:∃ j:Nat,(x.kind = 15∧i = j + 1)∨(x.kind≠15∧i = j):=by
   by_cases h1:x.kind = 15
   ·exact ⟨i - 1,.inl ⟨h1,by have:i≠0:=fun e => hc ⟨h1,e⟩;omega⟩⟩
   ·exact ⟨i,.inr ⟨h1,rfl⟩⟩
  have hT:Hid (T = .mk x.kind x.name x.more x.num x.den (setXL k x.subs j)):=by
   show _ = _
   rw [HSX.out,if_neg hc]
   rcases hj with ⟨h1,h2⟩ | ⟨h1,h2⟩
   ·rw [if_pos h1,h2];rfl
   ·rw [if_neg h1,h2]
  have hjI:j≤1000000:=by omega
  clear HSX hI
  rcases hj with ⟨h1,h2⟩ | ⟨h1,h2⟩
  case' inl =>
   have hq1:(x.kind == 15) = true:=by rw [h1];rfl
   have hq2:((i:Int) == 0) = false:=by rw [h2];simp;omega
   have hq3:(i:Int) - 1 = (j:Int):=by omega
   have hq4:decide ((i:Int) < 0) = false:=decide_eq_false (by omega);clear h1 h2 hc;go_upto_region 5 with (fail)
   clear hq2 hq4
  case' inr =>
   have hq1:(x.kind == 15) = false:=by simpa using h1
   have h2:=h2.symm;subst h2;clear h1 hc;go_upto_region 5 with (fail)
   have hq3:True:=trivial
  all_goals (
   have HQ4:=lH (qalloc W0 (.cells (xA x a c) 66));have HE4:=lH (CBox.new W0 66 (xA x a c));go_upto_region 6 with (fail)
   generalize World.alloc W0 _ = w4 at *;have HEl:=lH HE4.out.lt;obtain ⟨E,hE⟩:∃ E,W0.heap.size = E:=⟨_,rfl⟩;rw [hE] at HE4 HEl hsW ⊢;have HEn:Hid (n3 < E):=hsW;have HE3:Hid (W0.heap.size = E):=hE;have Hm1:=lH m1;clear hE hsW m1 x0 x1 x2 x3 x4 x5 xl;obtain ⟨e0,e1,e2,e3,e4,e5,el⟩:=cells6 HE4.out;obtain ⟨fe0,fe1,fe2,fe3,fe4,fe5⟩:=frozen6 HE4.out;go_upto_region 7 with (fail)
   clear e0 e1 e2 e3 e4 e5 fe0 fe1 fe2 fe3 fe4 fe5 el;have HE6:Hid (CBox (w4.setCell ⟨E,5,none⟩ (.slice none 0 0)) E 66 #[.int .i64 x.kind,.string x.name,.string x.more,.int .i64 x.num,.int .i64 x.den,.slice none 0 0]):=HE4.out.set 5 _;have HB6:Hid (Bw W0 (w4.setCell ⟨E,5,none⟩ (.slice none 0 0))):=HQ4.out.trans (((Mod.refl [E] w4).setCell (p:=⟨E,5,none⟩) (by simp) (.slice none 0 0)).upto HQ4.out.size (by intro k hk;simp at hk;have:=HE3.out;omega));generalize World.setCell _ ⟨E,5,none⟩ _ = w6 at *;clear HE4 HQ4 HEl
   obtain ⟨x0,x1,x2,x3,x4,x5,xl⟩:=cells6 (Gx.out.below HB6.out);go_wp2;clear x0 x1 x2 x3 x4 x5 xl hq1 hq3
   go_loopw [8,1] (fun kv iv wr => ∃ (t q:Nat) (vv:Value) (L:List Ex),t≤x.subs.length∧kv = .int .i64 t∧iv = .int .i64 q∧Hid (SetAt k x.subs j t q L)∧Hid (OwnT wr (E :: n3 :: w.heap.size :: X) (E + 1) 66 6 exprT vv L)∧Hid (CBox wr E 66 #[.int .i64 x.kind,.string x.name,.string x.more,.int .i64 x.num,.int .i64 x.den,vv])∧Hid (Bw W0 wr)) (fun kv _ _ => x.subs.length - (intOf kv).toNat)
   case atStart => exact ⟨0,j,.slice none 0 0,[],Nat.zero_le _,rfl,rfl,SetAt.zero k x.subs hjI,OwnT.nil _ _ _ _ _ _,HE6,HB6⟩
   case round =>
    obtain ⟨t,q,vv,L,htn,rfl,rfl,HS,HO,HE,HB⟩:=hrel;clear HE6 HB6;have hwr:=hA.trans (HB.out.mono hA.size);have x5:=(Gx.out.below HB.out).cell (i:=5) (v:=.slice a x.subs.length c) rfl;have xl:=(Gx.out.below HB.out).lt
    by_cases ht:t < x.subs.length
    ·have hd:decide ((t:Int) < (x.subs.length:Int)) = true:=decide_eq_true (by omega)
     have hir:(t:Int) < (x.subs.length:Int):=by omega
     obtain ⟨y,hy⟩:∃ y,x.subs[t]? = some y:=⟨_,List.getElem?_eq_getElem ht⟩
     have hY:∀ k,k∈(vv.ownBlock.toList ++ [E])→W0.heap.size≤k:=by
      intro k hk;have h3:=HE3.out
      rcases List.mem_append.1 hk with hk | hk
      ·have:=HO.out.ge (by simpa using hk);omega
      ·rw [List.mem_singleton.1 hk];omega
     have q4:=HE.out.lt
     have hYs:∀ k,k∈(vv.ownBlock.toList ++ [E]) ++ n3 :: w.heap.size :: X→k < wr.heap.size:=by
      intro k hk
      rcases List.mem_append.1 hk with hk | hk
      ·rcases List.mem_append.1 hk with hk | hk
       ·exact HO.out.lt (by simpa using hk)
       ·rw [List.mem_singleton.1 hk];exact q4
      ·have h8:=HB.out.size
       have h9:=HE3.out;have h7:=Hm1.out;have h6:=HEn.out
       rcases List.mem_cons.1 hk with rfl | hk
       ·omega
       ·rcases List.mem_cons.1 hk with rfl | hk
        ·omega
        ·have:=HXX.out _ hk;omega
     have hBu:=(HXW.out wr HB.out _ hY).subs;obtain ⟨b1,o1,ya,yc,rfl,hb1,e0,e1,e2,e3,e4,e5,hy1,hy2,hyr⟩:=subs_elem hBu hy;have hym:=List.mem_of_getElem? hy;have hyn:=nodesN_sub hym;have hsub:=HVX.out.sub hym;have HYI:=lH (show ExIn wr ((vv.ownBlock.toList ++ [E]) ++ n3 :: w.heap.size :: X) y ya yc from ⟨hyr.out,hy1,hy2⟩);have HCO:=lH (fun W (h:Bw wr W) => r32Conflicts_any y ya yc W (hyr.out.free.below h) (by omega));have hqI:q≤1000000:=HS.out.bd
     have HCA:=lH (fun S (hS:wr.heap.size≤S) W (h:Bw wr W) (hSW:S < W.heap.size) => HIH.out y hym q ya yc (S :: ((vv.ownBlock.toList ++ [E]) ++ n3 :: w.heap.size :: X)) W (fun k hk => by
      rcases List.mem_cons.1 hk with rfl | hk
      ·exact hSW
      ·exact Nat.lt_of_lt_of_le (hYs k hk) h.size) ((HYI.out.more hS).below h) hsub (by omega) hqI)
     have HYS:=lH (fun h => HS.out.yes hy HCL.out h);have HNS:=lH (fun h => HS.out.no hy h);have hcfb:confX y≤400:=by have:=conf_nodes y;omega
     clear hY hYs hBu hym hyn hsub hy hyr hy1 hy2;generalize confX y = cf at *;generalize setX k y q = z at *;unfold exV at HCO;have c0:=e0;have c1:=e1;have c2:=e2;have c3:=e3;have c4:=e4;have c5:=e5;go_wp2_with (fail)
     refine (HCO.out wr (qrefl _)).mono ?_;rintro e w2 ⟨rfl,hq2⟩;clear x5 xl c0 c1 c2 c3 c4 c5;have x5:=(Gx.out.below (qtrans HB.out hq2)).cell (i:=5) (v:=.slice (some ⟨b1,o1,none⟩) x.subs.length c) rfl;have xl:=(Gx.out.below (qtrans HB.out hq2)).lt;have hb2:=Nat.lt_of_lt_of_le hb1 hq2.size;have c0:=(hq2.cell (p:=⟨b1,_,none⟩) hb1).trans e0;have c1:=(hq2.cell (p:=⟨b1,_,none⟩) hb1).trans e1;have c2:=(hq2.cell (p:=⟨b1,_,none⟩) hb1).trans e2;have c3:=(hq2.cell (p:=⟨b1,_,none⟩) hb1).trans e3
     have c4:=(hq2.cell (p:=⟨b1,_,none⟩) hb1).trans e4;have c5:=(hq2.cell (p:=⟨b1,_,none⟩) hb1).trans e5;clear e0 e1 e2 e3 e4 e5;go_upto_region 14 with (fail)
     have hq3:=qtrans hq2 (qalloc w2 (.cells (xA y ya yc) 66));have HS3:=lH (CBox.new w2 66 (xA y ya yc));have HSw:Hid (E < w2.heap.size):=by show _ < _;have:=hq2.size;omega
     clear x5 xl c0 c1 c2 c3 c4 c5 hb2 hb1;generalize World.alloc w2 _ = w3 at *;generalize hSS:w2.heap.size = S at *;have HSg:Hid (wr.heap.size≤S):=by show _≤_;have:=hq2.size;omega
     clear hSS hq2 HCO
     by_cases hlt:q < cf
     case' pos =>
      have hd2:decide ((q:Int) < (cf:Int)) = true:=decide_eq_true (by omega);have hir2:(q:Int) < (cf:Int):=by omega
      obtain ⟨s0,s1,s2,s3,s4,s5,sl⟩:=cells6 HS3.out;go_wp2_with (fail)
      refine (HCA.out S HSg.out w3 hq3 HS3.out.lt).mono ?_;rintro e w4 ⟨za,zc,rfl,hzx,hq4⟩;unfold exV;clear s0 s1 s2 s3 s4 s5 sl;have hSl:=HS3.out.lt;obtain ⟨s0,s1,s2,s3,s4,s5,sl⟩:=cells6 (HS3.out.below hq4);obtain ⟨fs0,fs1,fs2,fs3,fs4,fs5⟩:=frozen6 (HS3.out.below hq4);go_upto_region 16 with (fail)
      clear s0 s1 s2 s3 s4 s5 fs0 fs1 fs2 fs3 fs4 fs5 sl hSl;obtain ⟨HS5,HM5⟩:=CBox.six (HS3.out.below hq4) (.int .i64 z.kind) (.string z.name) (.string z.more) (.int .i64 z.num) (.int .i64 z.den) (.slice za z.subs.length zc);generalize World.setCell _ ⟨S,5,none⟩ _ = w5 at *;have hq5:Bw wr w5:=(qtrans hq3 hq4).trans (HM5.upto (qtrans hq3 hq4).size (by intro k hk;simp at hk;have:=HSg.out;omega));have HS5:=lH HS5;have HZX:Hid (ExIn w5 ((vv.ownBlock.toList ++ [E]) ++ n3 :: w.heap.size :: X) z za zc):=(hzx.mod (HM5.mono inC)).fewer inT
      have HNX:=lH (HYS.out hlt);have HIX:Hid ((400:Nat) = 400):=rfl;clear HCA HYS HNS HM5 hzx hq4 hq3 HS3 HYI hd2 hir2
     case' neg =>
      have hd2:decide ((q:Int) < (cf:Int)) = false:=decide_eq_false (by omega);have hir2:¬ (q:Int) < (cf:Int):=by omega
      go_upto_region 16 with (fail)
      have HS5:=HS3;have hq5:=hq3;have HZX:=lH (HYI.out.below hq3);have HNX:=lH (HNS.out hlt);clear HCA HYS HNS hq3 HS3 HYI hd2 hir2;clear z;generalize y = z at *;generalize ya = za at *;generalize yc = zc at *;generalize w3 = w5 at *
     all_goals (
      have hbw:=qtrans hq5 (qalloc w5 (.cells (xA z za zc) 66));have hrow:IsRow (w5.alloc (.cells (xA z za zc) 66)) 6 (.slice (some ⟨w5.heap.size,0,none⟩) 1 1) 1 [.int .i64 z.kind,.string z.name,.string z.more,.int .i64 z.num,.int .i64 z.den,.slice za z.subs.length zc]:=⟨rfl,some ⟨w5.heap.size,0,none⟩,1,rfl,Nat.le_refl _,by unfold maxLen;omega,fun _ => ⟨w5.heap.size,0,rfl,by rw [World.size_alloc];omega,fun j q hj => by rw [Nat.zero_add];exact (CBox.new w5 66 (xA z za zc)).cell (i:=j) (v:=q) (by rw [List.getElem?_toArray];exact hj)⟩⟩
      have HY2:=lH (HZX.out.below (qalloc w5 (.cells (xA z za zc) 66))).subs;obtain ⟨xs,hown,hxr⟩:=HO.out.below hbw;have HE5:=lH (HE.out.below hq5);have HE2:=lH (HE.out.below hbw);have HB2:Hid (Bw W0 _):=HB.out.trans (hbw.mono HB.out.size);have HGE:Hid (∀ k,k∈vv.ownBlock.toList→E + 1≤k):=fun k hk => HO.out.ge (by simpa using hk);have HOW:=lH hown;have HXR:=lH hxr;have hLt:=HS.out.len;rw [hLt] at hown;have HLt:=lH hLt;have hEs:E + 1≤(w5.alloc (.cells (xA z za zc) 66)).heap.size:=HE2.out.lt
      obtain ⟨i0,hi0,hz0,hz1,hz2⟩:=info_parts infoExpr;have g5:=HE5.out.cell (i:=5) (v:=vv) rfl;have gl:=HE5.out.lt;obtain ⟨s0,s1,s2,s3,s4,s5,sl⟩:=cells6 HS5.out;clear hLt hxr hbw HO HE HB HE5
      go_upto_region 17 with (at_builtin;refine wpList_append_row rfl _ _ 64 rfl (E + 1) 66 i0 _ 6 80 Tryz.underlying64 hi0 hz0 hz1 hz2 rfl (by decide) vv t xs rfl hown (.slice (some ⟨w5.heap.size,0,none⟩) 1 1) 1 [.int .i64 z.kind,.string z.name,.string z.more,.int .i64 z.num,.int .i64 z.den,.slice za z.subs.length zc] rfl hrow (by intro q hq;simp only [List.mem_cons,List.not_mem_nil,or_false] at hq;rcases hq with rfl | rfl | rfl | rfl | rfl | rfl <;> rfl) (by unfold maxLen;omega) (by omega) hEs ?_;intro v' v3 ho3 hg3 hob3;have hM3:Mod vv.ownBlock.toList _ v3:=mod_of_grown hg3;have HE3b:=lH (HE2.out.mod hM3 (fun h => by have:=HGE.out _ h;omega));have HB3b:Hid (Bw W0 v3):=HB2.out.trans (hM3.upto HB2.out.size (fun k hk => by have:=HGE.out _ hk;have:=HE3.out;omega));have HO3:Hid (OwnT v3 (E :: n3 :: w.heap.size :: X) (E + 1) 66 6 exprT v' (L ++ [z])):=ownT_more HOW.out HXR.out HY2.out HLt.out ho3 hg3 hob3;obtain ⟨a4,c4',rfl⟩:=owns_val ho3;clear hown hrow hM3 HOW HXR HY2 HE2 HB2 ho3 hg3 hob3 g5 gl s0 s1 s2 s3 s4 s5 sl;have e5:=HE3b.out.cell (i:=5) (v:=vv) rfl;have f5:=HE3b.out.frozen 5;have el:=HE3b.out.lt)
      have HE4:Hid (CBox (v3.setCell ⟨E,5,none⟩ (.slice a4 (t + 1) c4')) E 66 #[.int .i64 x.kind,.string x.name,.string x.more,.int .i64 x.num,.int .i64 x.den,(.slice a4 (t + 1) c4')]):=HE3b.out.set 5 _;have HM4:Hid (Mod [E] v3 (v3.setCell ⟨E,5,none⟩ (.slice a4 (t + 1) c4'))):=(Mod.refl [E] v3).setCell (p:=⟨E,5,none⟩) (by simp) _;generalize World.setCell _ ⟨E,5,none⟩ _ = v4 at *;have HB4:Hid (Bw W0 v4):=HB3b.out.trans (HM4.out.upto HB3b.out.size (fun k hk => by have:=HE3.out;simp at hk;omega))
      have HO4:Hid (OwnT v4 (E :: n3 :: w.heap.size :: X) (E + 1) 66 6 exprT (.slice a4 (t + 1) c4') (L ++ [z])):=HO3.out.mod (HM4.out.mono (by intro k hk;rw [List.mem_singleton.1 hk];exact List.mem_cons_self ..)) (fun k hk hX => by
       have h1:=HO3.out.ge hk;have h2:=HEn.out;have h3:=Hm1.out
       rcases List.mem_cons.1 hX with h | h
       ·omega
       ·rcases List.mem_cons.1 h with h | h
        ·omega
        ·rcases List.mem_cons.1 h with h | h
         ·omega
         ·have:=HXX.out _ h;omega)
      clear e5 f5 el HE3b HO3 HM4 HB3b HS)
     ·obtain ⟨r,hr⟩:∃ r,q - cf = r:=⟨_,rfl⟩
      have h1:decide ((q:Int) ≥ 0) = true:=decide_eq_true (by omega);have h3:(q:Int) - (cf:Int) = (r:Int):=by omega
      have h2:decide ((r:Int) < 0) = false:=decide_eq_false (by omega);rw [hr] at HNX;clear hlt hr;go_wp2;go_roundw
      case rel => exact ⟨t + 1,r,.slice a4 (t + 1) c4',L ++ [z],by omega,by go_num,rfl,HNX,HO4,HE4,HB4⟩
      case measure => simp [intOf];omega
     ·have h1:decide ((q:Int) ≥ 0) = true:=decide_eq_true (by omega)
      have h2:decide ((q:Int) - (cf:Int) < 0) = true:=decide_eq_true (by omega);clear hlt;go_wp2;go_roundw
      case rel => exact ⟨t + 1,400,.slice a4 (t + 1) c4',L ++ [z],by omega,by go_num,rfl,HNX,HO4,HE4,HB4⟩
      case measure => simp [intOf];omega
    ·have hd:decide ((t:Int) < (x.subs.length:Int)) = false:=decide_eq_false (by omega)
     have htt:t = x.subs.length:=by omega
     subst htt;have hLe:=HS.out.all;have hLl:=HS.out.len;have hlen:=setXL_len k x.subs j;obtain ⟨av,cv,rfl,hcv1,hcv2⟩:=HO.out.val
     have HF:Hid (Reads wr (E :: n3 :: w.heap.size :: X) (subsT L) (.slice av L.length cv)):=HO.out.reads (fun k hk hX => by
      have h1:=HO.out.ge hk;have h2:=HEn.out;have h3:=Hm1.out
      rcases List.mem_cons.1 hX with h | h
      ·omega
      ·rcases List.mem_cons.1 h with h | h
       ·omega
       ·rcases List.mem_cons.1 h with h | h
        ·omega
        ·have:=HXX.out _ h;omega)
     rw [hLl] at HE;have HWR:=lH hwr;have HLL:=lH hLl;have HLE:=lH hLe;have HGO:=lH (Go.out.below HB.out);have HCV:Hid (L.length≤cv∧cv≤9223372036854775807):=⟨hcv1,hcv2⟩;clear hLe hLl hlen HO HS hcv1 hcv2 hwr HCL;obtain ⟨e0,e1,e2,e3,e4,e5,el⟩:=cells6 HE.out;obtain ⟨o0,o1,o2,o3,o4,o5,ol⟩:=cells6 HGO.out;obtain ⟨fo0,fo1,fo2,fo3,fo4,fo5⟩:=frozen6 HGO.out;go_wp2;clear e0 e1 e2 e3 e4 e5 el o0 o1 o2 o3 o4 o5 fo0 fo1 fo2 fo3 fo4 fo5 ol hd x5 xl
     obtain ⟨HC9,HM9⟩:=CBox.six (HGO.out) (.int .i64 x.kind) (.string x.name) (.string x.more) (.int .i64 x.num) (.int .i64 x.den) (.slice av x.subs.length cv);generalize World.setCell _ ⟨n3,5,none⟩ _ = W9 at *;obtain ⟨r0,r1,r2,r3,r4,r5,-⟩:=cells6 HC9;refine bodyPost_ret (by simp [results,Tryz.results198,go_sem,r0,r1,r2,r3,r4,r5];try rfl) rfl ?_;have hd9:Bw w W9:=HWR.out.trans (HM9.upto HWR.out.size (by intro k hk;simp at hk;have:=Hm1.out;omega))
     have hF9:Reads W9 X (subsT L) (.slice av L.length cv):=(HF.out.mod (HM9.mono (fun k hk => by rw [List.mem_singleton.1 hk];exact List.mem_cons_of_mem _ (List.mem_cons_self ..)))).fewer (fun k hk => List.mem_cons_of_mem _ (List.mem_cons_of_mem _ (List.mem_cons_of_mem _ hk)));have e1:T = .mk x.kind x.name x.more x.num x.den L:=by rw [hT.out,HLE.out]
     have e2:=HLL.out;have e3:=HCV.out;clear hT HLE;subst e1;refine ⟨av,cv,?_,⟨hF9,e3.1,e3.2⟩,hd9⟩;show Ending.returned (.agg #[.int .i64 x.kind,.string x.name,.string x.more,.int .i64 x.num,.int .i64 x.den,.slice av x.subs.length cv]) = Ending.returned (.agg #[.int .i64 x.kind,.string x.name,.string x.more,.int .i64 x.num,.int .i64 x.den,.slice av L.length cv])
     rw [e2])
set_option maxRecDepth 100000 in
set_option maxHeartbeats 16000000 in
theorem r32Settle_any (x:Ex) (i s:Int) (a:Option Addr) (c:Nat) (X:List Nat) (w:World) (hX:∀ k,k∈X→k < w.heap.size) (hx:ExIn w X x a c) (sx:SmX 40000 x) (hN:nodesN x≤1000000) :
  Calls Tryz.prog 140 #[exV x a c,.int .i64 i,.int .i64 s] w (SettledX x i s X w):=by
 have HXX:=lH hX;have HXI:=lH hx;have HCK:=lH (fun W (h:Bw w W) => rCheckExpr_any x a c W (hx.below h).subs.free sx (by omega));have HCO:=lH (fun W (h:Bw w W) => r32Conflicts_any x a c W (hx.below h).subs.free (by omega));have HER:Hid (setErr x i s = if exprErr x≠0 then exprErr x else if s < 0∨2 < s∨i < 0∨(confX x:Int)≤i then 2 else 0):=rfl;have HOU:Hid (setOut x i s = if setErr x i s = 0 then setX s.toNat x i.toNat else noX):=rfl
 have HSO:=lH (fun (W:World) (n3:Nat) (h0:exprErr x = 0) (hs:0≤s∧s≤2) (hi:0≤i∧i < (confX x:Int)) (h:Bw w W) (hn:w.heap.size≤n3) (hn3:n3 < W.heap.size) => (show Calls Tryz.prog 198 #[exV x a c,.int .i64 i,.int .i64 s] W (SetTwo (setX s.toNat x i.toNat) (n3 :: w.heap.size :: X) W) by
  have h1:=r32settled_any s.toNat (by omega) x i.toNat a c (n3 :: w.heap.size :: X) W (fun k hk => by
   rcases List.mem_cons.1 hk with rfl | hk
   ·exact hn3
   ·rcases List.mem_cons.1 hk with rfl | hk
    ·omega
    ·exact Nat.lt_of_lt_of_le (hX k hk) h.size) (((hx.more (k:=w.heap.size) (Nat.le_refl _)).more (k:=n3) hn).below h) (exprErr_val h0) (exprErr_iff.1 h0).1 (by have:=conf_nodes x;omega)
  rwa [show ((i.toNat:Nat):Int) = i by omega,show ((s.toNat:Nat):Int) = s by omega] at h1))
 clear hX hx sx;have gx:CBox ((w.alloc (.cells (xA x a c) 66)).alloc (.cells xZ 66)) w.heap.size 66 (xA x a c):=(CBox.new w 66 _).alloc _;have go:=CBox.new (w.alloc (.cells (xA x a c) 66)) 66 xZ;rw [World.size_alloc] at go;have hA:Bw w ((w.alloc (.cells (xA x a c) 66)).alloc (.cells xZ 66)):=qtrans (qalloc _ _) (qalloc _ _);have hs4:((w.alloc (.cells (xA x a c) 66)).alloc (.cells xZ 66)).heap.size = w.heap.size + 1 + 1:=by simp only [World.size_alloc]
 unfold exV at HCK HCO HSO ⊢
 go_enter Tryz.func140,Tryz.ntmps140
 go_upto_region 1 with (fail)
 generalize ((w.alloc (.cells (xA x a c) 66)).alloc (.cells xZ 66)) = W0 at *;generalize hn3:w.heap.size + 1 = n3 at *;have m1:w.heap.size < n3:=by omega
 have hsW:n3 < W0.heap.size:=by omega
 clear hn3 hs4;have Gx:=lH gx;have Go:=lH go;clear gx go;obtain ⟨x0,x1,x2,x3,x4,x5,xl⟩:=cells6 Gx.out;go_wp2_with (fail)
 refine (HCK.out W0 hA).mono ?_;rintro e w1 ⟨rfl,hb1⟩;clear x0 x1 x2 x3 x4 x5 xl HCK;have hw1:=qtrans hA hb1;obtain ⟨q,hq⟩:∃ q,exprErr x = q:=⟨_,rfl⟩;rw [hq]
 by_cases hq0:q = 0
 case neg =>
  have HE:Hid (setErr x i s = q):=by show _ = _;rw [HER.out,hq,if_pos hq0]
  have HO:Hid (setOut x i s = noX):=by show _ = _;rw [HOU.out,HE.out,if_neg hq0]
  have hq3:(q != 0) = true:=by simpa using hq0
  clear hq hq0 HER HOU HSO HCO;obtain ⟨o0,o1,o2,o3,o4,o5,ol⟩:=cells6 (Go.out.below hb1);obtain ⟨fo0,fo1,fo2,fo3,fo4,fo5⟩:=frozen6 (Go.out.below hb1);go_wp2;clear o0 o1 o2 o3 o4 o5 fo0 fo1 fo2 fo3 fo4 fo5 ol;obtain ⟨HC9,HM9⟩:=CBox.six (Go.out.below hb1) (.int .i64 0) (.string ⟨#[]⟩) (.string ⟨#[]⟩) (.int .i64 0) (.int .i64 0) (.slice none 0 0);generalize World.setCell _ ⟨n3,5,none⟩ _ = W9 at *;obtain ⟨r0,r1,r2,r3,r4,r5,-⟩:=cells6 HC9;refine bodyPost_ret (by simp [results,Tryz.results140,go_sem,r0,r1,r2,r3,r4,r5];try rfl) rfl ?_
  have hd9:Bw w W9:=hw1.trans (HM9.upto hw1.size (by intro k hk;simp at hk;omega));exact ⟨none,0,by rw [HE.out,HO.out];rfl,by rw [HO.out];exact noX_in _ _,hd9⟩
 case pos =>
  have hq3:(q != 0) = false:=by simpa using hq0
  have HQ:Hid (exprErr x = 0):=hq.trans hq0;have HER2:Hid (setErr x i s = if s < 0∨2 < s∨i < 0∨(confX x:Int)≤i then 2 else 0):=by show _ = _;rw [HER.out,if_neg (fun h => h HQ.out)]
  clear hq hq0 HER
  rcases (by omega:s < 0∨(¬ s < 0∧2 < s)∨(¬ s < 0∧¬ 2 < s∧i < 0)∨(¬ s < 0∧¬ 2 < s∧¬ i < 0)) with h1 | ⟨h1,h2⟩ | ⟨h1,h2,h3⟩ | ⟨h1,h2,h3⟩
  case' inl =>
   have HE:Hid (setErr x i s = 2):=by show _ = _;rw [HER2.out,if_pos (.inl h1)]
   have d1:decide (s < 0) = true:=decide_eq_true h1;go_upto_region 5 with (fail)
   clear d1 h1
  case' inr.inl =>
   have HE:Hid (setErr x i s = 2):=by show _ = _;rw [HER2.out,if_pos (.inr (.inl h2))]
   have d1:decide (s < 0) = false:=decide_eq_false h1;have d2:decide (s > 2) = true:=decide_eq_true h2;go_upto_region 5 with (fail)
   clear d1 d2 h1 h2
  case' inr.inr.inl =>
   have HE:Hid (setErr x i s = 2):=by show _ = _;rw [HER2.out,if_pos (.inr (.inr (.inl h3)))]
   have d1:decide (s < 0) = false:=decide_eq_false h1;have d2:decide (s > 2) = false:=decide_eq_false h2;have d3:decide (i < 0) = true:=decide_eq_true h3;go_upto_region 5 with (fail)
   clear d1 d2 d3 h1 h2 h3
  case' inr.inr.inr =>
   have d1:decide (s < 0) = false:=decide_eq_false h1;have d2:decide (s > 2) = false:=decide_eq_false h2;have d3:decide (i < 0) = false:=decide_eq_false h3;obtain ⟨x0,x1,x2,x3,x4,x5,xl⟩:=cells6 (Gx.out.below hb1);go_wp2_with (fail)
   refine (HCO.out w1 hw1).mono ?_;rintro e w2 ⟨rfl,hb2⟩;clear x0 x1 x2 x3 x4 x5 xl d1 d2 d3;have hb1:=qtrans hb1 hb2;have hw1:=qtrans hA hb1
   by_cases h4:(confX x:Int)≤i
   case' pos =>
    have HE:Hid (setErr x i s = 2):=by show _ = _;rw [HER2.out,if_pos (.inr (.inr (.inr h4)))]
    have d4:decide (i ≥ (confX x:Int)) = true:=decide_eq_true h4;go_upto_region 5 with (fail)
    clear d4 h1 h2 h3 h4 hb2;generalize w2 = w1 at *
   case neg =>
    have HE:Hid (setErr x i s = 0):=by show _ = _;rw [HER2.out,if_neg (by omega)]
    have HO:Hid (setOut x i s = setX s.toNat x i.toNat):=by show _ = _;rw [HOU.out,HE.out,if_pos rfl]
    have d4:decide (i ≥ (confX x:Int)) = false:=decide_eq_false h4;have HS2:=lH (HSO.out w2 n3 HQ.out (by omega) (by omega) hw1 (by omega) (by have:=hb1.size;omega));clear HSO HER2 HOU HCO h1 h2 h3 h4 hb2 HQ hq3;generalize setX s.toNat x i.toNat = z at *;obtain ⟨x0,x1,x2,x3,x4,x5,xl⟩:=cells6 (Gx.out.below hb1);go_wp2_with (fail)
    refine HS2.out.mono ?_;rintro e w3 ⟨za,zc,rfl,hzx,hb3⟩;unfold exV;clear x0 x1 x2 x3 x4 x5 xl d4 HS2;have hb3:=qtrans hb1 hb3;have HZX:=lH hzx;have hw3:=qtrans hA hb3;clear hzx hb1 hw1;obtain ⟨o0,o1,o2,o3,o4,o5,ol⟩:=cells6 (Go.out.below hb3);obtain ⟨fo0,fo1,fo2,fo3,fo4,fo5⟩:=frozen6 (Go.out.below hb3);go_wp2;clear o0 o1 o2 o3 o4 o5 fo0 fo1 fo2 fo3 fo4 fo5 ol;obtain ⟨HC9,HM9⟩:=CBox.six (Go.out.below hb3) (.int .i64 z.kind) (.string z.name) (.string z.more) (.int .i64 z.num) (.int .i64 z.den) (.slice za z.subs.length zc)
    generalize World.setCell _ ⟨n3,5,none⟩ _ = W9 at *;obtain ⟨r0,r1,r2,r3,r4,r5,-⟩:=cells6 HC9;refine bodyPost_ret (by simp [results,Tryz.results140,go_sem,r0,r1,r2,r3,r4,r5];try rfl) rfl ?_;have hd9:Bw w W9:=hw3.trans (HM9.upto hw3.size (by intro k hk;simp at hk;omega));exact ⟨za,zc,by rw [HE.out,HO.out];rfl,by rw [HO.out];exact (HZX.out.mod (HM9.mono inC)).fewer (fun k hk => List.mem_cons_of_mem _ (List.mem_cons_of_mem _ hk)),hd9⟩
  all_goals (
   have HO:Hid (setOut x i s = noX):=by show _ = _;rw [HOU.out,HE.out,if_neg (by decide)]
   clear HOU HSO HCO HER2 HQ hq3;obtain ⟨o0,o1,o2,o3,o4,o5,ol⟩:=cells6 (Go.out.below hb1);obtain ⟨fo0,fo1,fo2,fo3,fo4,fo5⟩:=frozen6 (Go.out.below hb1);go_wp2;clear o0 o1 o2 o3 o4 o5 fo0 fo1 fo2 fo3 fo4 fo5 ol;obtain ⟨HC9,HM9⟩:=CBox.six (Go.out.below hb1) (.int .i64 0) (.string ⟨#[]⟩) (.string ⟨#[]⟩) (.int .i64 0) (.int .i64 0) (.slice none 0 0);generalize World.setCell _ ⟨n3,5,none⟩ _ = W9 at *;obtain ⟨r0,r1,r2,r3,r4,r5,-⟩:=cells6 HC9;refine bodyPost_ret (by simp [results,Tryz.results140,go_sem,r0,r1,r2,r3,r4,r5];try rfl) rfl ?_
   have hd9:Bw w W9:=hw1.trans (HM9.upto hw1.size (by intro k hk;simp at hk;omega))
   exact ⟨none,0,by rw [HE.out,HO.out];rfl,by rw [HO.out];exact noX_in _ _,hd9⟩)
end Go.Proofs.YtdpnfkjafhbndaaGreatDoor

