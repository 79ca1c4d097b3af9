/- modmerge.equalExpr (with slices.EqualFunc), equalDecl. -/
import Derived.Test.YtdpnfkjafhbndaaGreatDoorRXG
import Derived.Test.YtdpnfkjafhbndaaGreatDoorRT5
namespace Go.Proofs.YtdpnfkjafhbndaaGreatDoor
open Go.RowKit Go.Shelf
attribute [local go_sem] Oper.semAt_some
def EqP (x:Ex):Prop:=∀ (y:Ex) (a b:Option Addr) (c d:Nat) (w:World),Reads w [] (subsT x.subs) (.slice a x.subs.length c)→Reads w [] (subsT y.subs) (.slice b y.subs.length d) →
  Calls Tryz.prog 222 #[exV x a c,exV y b d] w fun e w' => e = .returned (.bool (sameX x y))∧Bw w w'
set_option maxRecDepth 100000 in
set_option maxHeartbeats 4000000 in
theorem EqFuncX_any (l m:List Ex) (ih:∀ x∈l,EqP x) (hn:l.length≤4000000) (a b:Option Addr) (c d:Nat) (w:World) (hl:Reads w [] (subsT l) (.slice a l.length c)) (hm:Reads w [] (subsT m) (.slice b m.length d)) :
  Calls Tryz.prog 264 #[.slice a l.length c,.slice b m.length d,.func (.func 222) #[] #[]] w fun e w' => e = .returned (.bool (sameL l m))∧Bw w w':=by
 have HIH:=lH ih;have HL:=lH hl;have HM:=lH hm;clear ih hl hm
 by_cases hlen:l.length = m.length
 ·have h0:((l.length:Int) != (m.length:Int)) = false:=by rw [hlen];simp
  have HLE:=lH hlen;obtain ⟨T,hT⟩:∃ T,sameL l m = T:=⟨_,rfl⟩;have HE:Hid (T = sameL (l.drop 0) (m.drop 0)):=hT.symm;rw [hT];clear hT;rw [← hlen] at HM h0 ⊢;clear hlen
  go_enter Tryz.func264,Tryz.ntmps264
  go_wp2
  go_loopw [17] (fun iv wr => ∃ i:Nat,i≤l.length∧iv = .int .i64 i∧Hid (T = sameL (l.drop i) (m.drop i))∧Hid (Bw w wr)) (fun iv _ => l.length - (intOf iv).toNat)
  case atStart => exact ⟨0,Nat.zero_le _,rfl,HE,qrefl _⟩
  case round =>
   obtain ⟨i,hil,rfl,HI,HB⟩:=hrel
   by_cases hi:i < l.length
   ·have hd:decide ((i:Int) < (l.length:Int)) = true:=decide_eq_true (by omega)
    have hir:(i:Int) < (l.length:Int):=by omega
    obtain ⟨u,hu⟩:∃ u,l[i]? = some u:=⟨_,List.getElem?_eq_getElem hi⟩;obtain ⟨v,hv⟩:∃ v,m[i]? = some v:=⟨_,List.getElem?_eq_getElem (by rw [← HLE.out];exact hi)⟩;have hM:Reads wr [] (subsT m) (.slice b m.length d):=by rw [← HLE.out];exact HM.out.below HB.out
    obtain ⟨b1,o1,ua,uc,rfl,hb1,c0,c1,c2,c3,c4,c5,-,-,hur⟩:=subs_elem (HL.out.below HB.out) hu;obtain ⟨b2,o2,va,vc,rfl,hb2,d0,d1,d2,d3,d4,d5,-,-,hvr⟩:=subs_elem hM hv;have HU:=lH hur.out;have HV:=lH hvr.out;have hq1:=qalloc wr (.cells (xA u ua uc) 66);have hq2:=qalloc (wr.alloc (.cells (xA u ua uc) 66)) (.cells (xA v va vc) 66);have hq:=qtrans hq1 hq2;have hd1:=hq1.size;have e0:=(hq1.cell (p:=⟨b2,_,none⟩) hb2).trans d0;have e1:=(hq1.cell (p:=⟨b2,_,none⟩) hb2).trans d1
    have e2:=(hq1.cell (p:=⟨b2,_,none⟩) hb2).trans d2;have e3:=(hq1.cell (p:=⟨b2,_,none⟩) hb2).trans d3;have e4:=(hq1.cell (p:=⟨b2,_,none⟩) hb2).trans d4;have e5:=(hq1.cell (p:=⟨b2,_,none⟩) hb2).trans d5;have hb2':b2 < (wr.alloc (.cells (xA u ua uc) 66)).heap.size:=Nat.lt_of_lt_of_le hb2 hd1;have HC:=lH (HIH.out u (List.mem_of_getElem? hu) v ua va uc vc _ (HU.out.below hq) (HV.out.below hq));have HN:=lH (HI.out.trans (sameL_at hu hv));have HBQ:Hid (Bw w _):=HB.out.trans (hq.mono HB.out.size);unfold exV at HC
    clear hM HI hu hv hur hvr HU HV hq1 hq2 hq hd1 HB;generalize sameX u v = r at *;go_wp2_with (fail)
    refine HC.out.mono ?_;rintro e w3 ⟨rfl,hb3⟩;have HB3:Hid (Bw w w3):=HBQ.out.trans (hb3.mono HBQ.out.size);clear HC hb3 HBQ c0 c1 c2 c3 c4 c5 d0 d1 d2 d3 d4 d5 e0 e1 e2 e3 e4 e5 hb2' hb1 hb2
    cases r with
    | true =>
     rw [Bool.true_and] at HN;go_wp2;go_roundw
     case rel => exact ⟨i + 1,by omega,by go_num,HN,HB3⟩
     case measure => simp [intOf];omega
    | false =>
     rw [Bool.false_and] at HN;go_wp2;go_ret;exact ⟨ret_bool HN.out.symm,HB3.out⟩
   ·have hd:decide ((i:Int) < (l.length:Int)) = false:=decide_eq_false (by omega)
    have HF:Hid (T = true):=by show _ = _;rw [HI.out,sameL_end (by omega) (by rw [← HLE.out];omega)]
    go_wp2;go_ret;exact ⟨ret_bool HF.out.symm,HB.out⟩
 ·have h0:((l.length:Int) != (m.length:Int)) = true:=by simp;omega
  rw [sameL_len hlen];clear hlen
  go_enter Tryz.func264,Tryz.ntmps264
  go_wp2;go_ret;exact ⟨rfl,qrefl _⟩
theorem two_exboxes (w:World) (xs ys:Array Value):CBox ((w.alloc (.cells xs 66)).alloc (.cells ys 66)) w.heap.size 66 xs∧CBox ((w.alloc (.cells xs 66)).alloc (.cells ys 66)) (w.heap.size + 1) 66 ys∧Bw w ((w.alloc (.cells xs 66)).alloc (.cells ys 66)):=by
 refine ⟨(CBox.new w _ xs).alloc _,?_,qtrans (qalloc _ _) (qalloc _ _)⟩;have:=CBox.new (w.alloc (.cells xs 66)) 66 ys;rwa [World.size_alloc] at this
set_option maxRecDepth 100000 in
set_option maxHeartbeats 4000000 in
theorem mEqualExpr_any (x:Ex):nodesN x≤4000000→EqP x:=by
 refine Ex.ind (P:=fun x => nodesN x≤4000000→EqP x) (fun x ih => ?_) x;intro hN y a b c d w hx hy;have hns:nodesN x = 1 + nodesL x.subs:=nodesN_eq x;have hnl:=nodesL_len x.subs;have HQ:=lH (fun W (h:Bw w W) => EqFuncX_any x.subs y.subs (fun z hz => ih z hz (by have:=nodesL_mem hz;omega)) (by omega) a b c d W (hx.below h) (hy.below h));obtain ⟨g1,g2,hA⟩:=two_exboxes w (xA x a c) (xA y b d);clear ih hx hy
 obtain ⟨k1,k2,k3,k4,k5,e1,e2,e3,e4,e5⟩:∃ k1 k2 k3 k4 k5,(x.kind == y.kind) = k1∧(x.name.toList == y.name.toList) = k2∧(x.more.toList == y.more.toList) = k3∧(x.num == y.num) = k4∧(x.den == y.den) = k5:=⟨_,_,_,_,_,rfl,rfl,rfl,rfl,rfl⟩
 have HR:Hid (sameX x y = ((k1 && (k2 && (k3 && (k4 && k5)))) && sameL x.subs y.subs)):=by
  show _ = _
  rw [← e1,← e2,← e3,← e4,← e5];exact sameX_eq x y
 generalize sameX x y = T at *;generalize sameL x.subs y.subs = q at *;unfold exV
 cases k1 with
 | false =>
  go_enter Tryz.func222,Tryz.ntmps222
  go_upto_region 1 with (fail)
  generalize (w.alloc (.cells (xA x a c) 66)).alloc (.cells (xA y b d) 66) = W0 at *;obtain ⟨x0,x1,x2,x3,x4,x5,xl⟩:=cells6 g1;obtain ⟨y0,y1,y2,y3,y4,y5,yl⟩:=cells6 g2;go_wp2;go_ret;exact ⟨ret_bool (by rw [HR.out];rfl),hA⟩
 | true =>
  cases k2 with
  | false =>
   go_enter Tryz.func222,Tryz.ntmps222
   go_upto_region 1 with (fail)
   generalize (w.alloc (.cells (xA x a c) 66)).alloc (.cells (xA y b d) 66) = W0 at *;obtain ⟨x0,x1,x2,x3,x4,x5,xl⟩:=cells6 g1;obtain ⟨y0,y1,y2,y3,y4,y5,yl⟩:=cells6 g2;go_wp2;go_ret;exact ⟨ret_bool (by rw [HR.out];rfl),hA⟩
  | true =>
   cases k3 with
   | false =>
    go_enter Tryz.func222,Tryz.ntmps222
    go_upto_region 1 with (fail)
    generalize (w.alloc (.cells (xA x a c) 66)).alloc (.cells (xA y b d) 66) = W0 at *;obtain ⟨x0,x1,x2,x3,x4,x5,xl⟩:=cells6 g1;obtain ⟨y0,y1,y2,y3,y4,y5,yl⟩:=cells6 g2;go_wp2;go_ret;exact ⟨ret_bool (by rw [HR.out];rfl),hA⟩
   | true =>
    cases k4 with
    | false =>
     go_enter Tryz.func222,Tryz.ntmps222
     go_upto_region 1 with (fail)
     generalize (w.alloc (.cells (xA x a c) 66)).alloc (.cells (xA y b d) 66) = W0 at *;obtain ⟨x0,x1,x2,x3,x4,x5,xl⟩:=cells6 g1;obtain ⟨y0,y1,y2,y3,y4,y5,yl⟩:=cells6 g2;go_wp2;go_ret;exact ⟨ret_bool (by rw [HR.out];rfl),hA⟩
    | true =>
     cases k5 with
     | false =>
      go_enter Tryz.func222,Tryz.ntmps222
      go_upto_region 1 with (fail)
      generalize (w.alloc (.cells (xA x a c) 66)).alloc (.cells (xA y b d) 66) = W0 at *;obtain ⟨x0,x1,x2,x3,x4,x5,xl⟩:=cells6 g1;obtain ⟨y0,y1,y2,y3,y4,y5,yl⟩:=cells6 g2;go_wp2;go_ret;exact ⟨ret_bool (by rw [HR.out];rfl),hA⟩
     | true =>
      go_enter Tryz.func222,Tryz.ntmps222
      go_upto_region 1 with (fail)
      generalize (w.alloc (.cells (xA x a c) 66)).alloc (.cells (xA y b d) 66) = W0 at *;obtain ⟨x0,x1,x2,x3,x4,x5,xl⟩:=cells6 g1;obtain ⟨y0,y1,y2,y3,y4,y5,yl⟩:=cells6 g2;go_wp2_with (fail)
      refine (HQ.out W0 hA).mono ?_;rintro e w3 ⟨rfl,hb3⟩;have hB3:=qtrans hA hb3
      cases q with
      | true =>
       have HT:Hid (T = true):=by show _ = _;rw [HR.out];rfl
       clear HR;go_wp2;go_ret;exact ⟨ret_bool HT.out.symm,hB3⟩
      | false =>
       have HT:Hid (T = false):=by show _ = _;rw [HR.out];rfl
       clear HR;go_wp2;go_ret;exact ⟨ret_bool HT.out.symm,hB3⟩
theorem two_dboxes (w:World) (xs ys:Array Value):CBox ((w.alloc (.cells xs 69)).alloc (.cells ys 69)) w.heap.size 69 xs∧CBox ((w.alloc (.cells xs 69)).alloc (.cells ys 69)) (w.heap.size + 1) 69 ys∧Bw w ((w.alloc (.cells xs 69)).alloc (.cells ys 69)):=by
 refine ⟨(CBox.new w _ xs).alloc _,?_,qtrans (qalloc _ _) (qalloc _ _)⟩;have:=CBox.new (w.alloc (.cells xs 69)) 69 ys;rwa [World.size_alloc] at this
set_option maxRecDepth 100000 in
set_option maxHeartbeats 4000000 in
theorem mEqualDecl_any (d f:ODecl) (and anf asd asf:Option Addr) (cnd cnf csd csf:Nat) (w:World) (hd:DeclIn w d and cnd asd csd) (hf:DeclIn w f anf cnf asf csf) (hsd:d.names.length≤1000000) (hN:nodesN d.body≤4000000) :
  Calls Tryz.prog 164 #[declV d and cnd asd csd,declV f anf cnf asf csf] w fun e w' => e = .returned (.bool (sameD d f))∧Bw w w':=by
 have HS:=lH (fun W (h:Bw w W) => EqualS_any d.names f.names and anf cnd cnf W (reads_strs.1 (hd.below h).names).1 (reads_strs.1 (hf.below h).names).1 hsd);have HX:=lH (fun W (h:Bw w W) => mEqualExpr_any d.body hN f.body asd asf csd csf W (hd.below h).subs (hf.below h).subs);obtain ⟨g1,g2,hA⟩:=two_dboxes w (dA d and cnd asd csd) (dA f anf cnf asf csf);have G1:=lH g1;have G2:=lH g2;clear hd hf g1 g2
 obtain ⟨k1,k2,k3,k4,e1,e2,e3,e4⟩:∃ k1 k2 k3 k4,(d.id == f.id) = k1∧(d.kind == f.kind) = k2∧(d.pub == f.pub) = k3∧(d.doubt == f.doubt) = k4:=⟨_,_,_,_,rfl,rfl,rfl,rfl⟩
 have HR:Hid (sameD d f = (k1 && ((k2 && (k3 && k4)) && (sameSs d.names f.names && sameX d.body f.body)))):=by
  show _ = _
  rw [← e1,← e2,← e3,← e4];rfl
 generalize sameD d f = T at *;generalize sameSs d.names f.names = q1 at *;generalize sameX d.body f.body = q2 at *;unfold exV at HX;unfold declV
 cases k1 with
 | false =>
  go_enter Tryz.func164,Tryz.ntmps164
  go_upto_region 1 with (fail)
  generalize (w.alloc (.cells (dA d and cnd asd csd) 69)).alloc (.cells (dA f anf cnf asf csf) 69) = W0 at *;obtain ⟨x0,x1,x2,x3,x4,x5,x6,x7,x8,x9,x10,xl⟩:=cells11 G1.out;obtain ⟨y0,y1,y2,y3,y4,y5,y6,y7,y8,y9,y10,yl⟩:=cells11 G2.out;go_wp2;go_ret;exact ⟨ret_bool (by rw [HR.out];rfl),hA⟩
 | true =>
  cases k2 with
  | false =>
   go_enter Tryz.func164,Tryz.ntmps164
   go_upto_region 1 with (fail)
   generalize (w.alloc (.cells (dA d and cnd asd csd) 69)).alloc (.cells (dA f anf cnf asf csf) 69) = W0 at *;obtain ⟨x0,x1,x2,x3,x4,x5,x6,x7,x8,x9,x10,xl⟩:=cells11 G1.out;obtain ⟨y0,y1,y2,y3,y4,y5,y6,y7,y8,y9,y10,yl⟩:=cells11 G2.out;go_wp2;go_ret;exact ⟨ret_bool (by rw [HR.out];rfl),hA⟩
  | true =>
   cases k3 with
   | false =>
    go_enter Tryz.func164,Tryz.ntmps164
    go_upto_region 1 with (fail)
    generalize (w.alloc (.cells (dA d and cnd asd csd) 69)).alloc (.cells (dA f anf cnf asf csf) 69) = W0 at *;obtain ⟨x0,x1,x2,x3,x4,x5,x6,x7,x8,x9,x10,xl⟩:=cells11 G1.out;obtain ⟨y0,y1,y2,y3,y4,y5,y6,y7,y8,y9,y10,yl⟩:=cells11 G2.out;go_wp2;go_ret;exact ⟨ret_bool (by rw [HR.out];rfl),hA⟩
   | true =>
    cases k4 with
    | false =>
     go_enter Tryz.func164,Tryz.ntmps164
     go_upto_region 1 with (fail)
     generalize (w.alloc (.cells (dA d and cnd asd csd) 69)).alloc (.cells (dA f anf cnf asf csf) 69) = W0 at *;obtain ⟨x0,x1,x2,x3,x4,x5,x6,x7,x8,x9,x10,xl⟩:=cells11 G1.out;obtain ⟨y0,y1,y2,y3,y4,y5,y6,y7,y8,y9,y10,yl⟩:=cells11 G2.out;go_wp2;go_ret;exact ⟨ret_bool (by rw [HR.out];rfl),hA⟩
    | true =>
     go_enter Tryz.func164,Tryz.ntmps164
     go_upto_region 1 with (fail)
     generalize (w.alloc (.cells (dA d and cnd asd csd) 69)).alloc (.cells (dA f anf cnf asf csf) 69) = W0 at *;obtain ⟨x0,x1,x2,x3,x4,x5,x6,x7,x8,x9,x10,xl⟩:=cells11 G1.out;obtain ⟨y0,y1,y2,y3,y4,y5,y6,y7,y8,y9,y10,yl⟩:=cells11 G2.out;go_wp2_with (fail)
     refine (HS.out W0 hA).mono ?_;rintro e w3 ⟨rfl,hb3⟩;have hB3:=qtrans hA hb3;clear x0 y0 x1 y1 x2 y2 x3 y3 x4 y4 x5 y5 x6 y6 x7 y7 x8 y8 x9 y9 x10 y10 xl yl
     cases q1 with
     | false =>
      have HT:Hid (T = false):=by show _ = _;rw [HR.out];rfl
      clear HR;go_wp2;go_ret;exact ⟨ret_bool HT.out.symm,hB3⟩
     | true =>
      obtain ⟨-,-,-,-,-,x5,x6,x7,x8,x9,x10,xl⟩:=cells11 (G1.out.below hb3);obtain ⟨-,-,-,-,-,y5,y6,y7,y8,y9,y10,yl⟩:=cells11 (G2.out.below hb3);go_wp2_with (fail)
      refine (HX.out w3 hB3).mono ?_;rintro e w4 ⟨rfl,hb4⟩;have hB4:=qtrans hB3 hb4;clear x5 y5 x6 y6 x7 y7 x8 y8 x9 y9 x10 y10 xl yl
      cases q2 with
      | true =>
       have HT:Hid (T = true):=by show _ = _;rw [HR.out];rfl
       clear HR;go_wp2;go_ret;exact ⟨ret_bool HT.out.symm,hB4⟩
      | false =>
       have HT:Hid (T = false):=by show _ = _;rw [HR.out];rfl
       clear HR;go_wp2;go_ret;exact ⟨ret_bool HT.out.symm,hB4⟩
end Go.Proofs.YtdpnfkjafhbndaaGreatDoor

