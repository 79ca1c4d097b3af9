/- exprmerge.Merge and the reference's. -/
import Derived.Test.YtdpnfkjafhbndaaGreatDoorRXC
namespace Go.Proofs.YtdpnfkjafhbndaaGreatDoor
open Go.RowKit Go.Shelf
attribute [local go_sem] Oper.semAt_some
theorem mergeXErr_at {b l r x:Ex} {i:Nat} (hi:[b,l,r][i]? = some x) (h:∀ j y,j < i→[b,l,r][j]? = some y→exprErr y = 0) (hx:exprErr x≠0):mergeXErr b l r = exprErr x:=by
 match i,hi with
 | 0,hi => cases hi;unfold mergeXErr;rw [if_neg hx]
 | 1,hi => cases hi;unfold mergeXErr;rw [if_pos (h 0 b (by omega) rfl),if_neg hx]
 | 2,hi => cases hi;unfold mergeXErr;rw [if_pos (h 0 b (by omega) rfl),if_pos (h 1 l (by omega) rfl),if_neg hx]
theorem mergeXErr_all {b l r:Ex} (h:∀ j y,j < 3→[b,l,r][j]? = some y→exprErr y = 0):mergeXErr b l r = if exprErr (mergeX b l r) = 0 then 0 else 4:=by
 unfold mergeXErr;rw [if_pos (h 0 b (by omega) rfl),if_pos (h 1 l (by omega) rfl),if_pos (h 2 r (by omega) rfl)]
theorem three_reads {w:World} {b l r:Ex} {ba la ra:Option Addr} {bc lc rc:Nat} {R:Nat} (h:CBox w R 66 #[.int .i64 b.kind,.string b.name,.string b.more,.int .i64 b.num,.int .i64 b.den,.slice ba b.subs.length bc,.int .i64 l.kind,.string l.name,.string l.more,.int .i64 l.num,.int .i64 l.den,.slice la l.subs.length lc,.int .i64 r.kind,.string r.name,.string r.more,.int .i64 r.num,.int .i64 r.den,.slice ra r.subs.length rc])
  (hb:Reads w [] (subsT b.subs) (.slice ba b.subs.length bc)) (hl:Reads w [] (subsT l.subs) (.slice la l.subs.length lc)) (hr:Reads w [] (subsT r.subs) (.slice ra r.subs.length rc)):Reads w [] (subsT [b,l,r]) (.slice (some ⟨R,0,none⟩) 3 3):=
 clash_reads h (by simp) hb hl hr
structure MergedX (b l r:Ex) (X:List Nat) (w:World) (e:Ending) (w':World):Prop where
  of ::
  out:∃ a c,e = .returned (.tuple #[exV (mergeXOut b l r) a c,.int .i64 (mergeXErr b l r)])∧ExIn w' X (mergeXOut b l r) a c∧Below w.heap.size w w'
theorem noX_in (w:World) (X:List Nat):ExIn w X noX none 0:=⟨Reads.nilRow w X 6 exprT,Nat.le_refl _,Nat.zero_le _⟩
set_option maxRecDepth 100000 in
set_option maxHeartbeats 8000000 in
theorem xMerge_any (b l r:Ex) (ba la ra:Option Addr) (bc lc rc:Nat) (X:List Nat) (w:World) (hX:∀ k,k∈X→k < w.heap.size) (hb:ExIn w X b ba bc) (hl:ExIn w X l la lc) (hr:ExIn w X r ra rc) (sb:SmX 40000 b) (sl:SmX 40000 l) (sr:SmX 40000 r) (hNb:nodesN b≤1000000) (hNl:nodesN l≤1000000) (hNr:nodesN r≤1000000) :
  Calls Tryz.prog 220 #[exV b ba bc,exV l la lc,exV r ra rc] w (MergedX b l r X w):=by
 have hsm:=mergeX_sm b l r sb sl sr;have hnm:=mergeX_nodes b l r;have HCK:=lH (fun (x:Ex) (a:Option Addr) (c:Nat) W (h:Reads W [] (subsT x.subs) (.slice a x.subs.length c)) (h1:x.subs.length≤c) (h2:c≤9223372036854775807) (hs:SmX 40000 x) (hN:nodesN x≤4000000) => CheckExpr_any x a c W h h1 h2 hs hN);obtain ⟨y,hy⟩:∃ y,mergeX b l r = y:=⟨_,rfl⟩
 have HMG:=lH (fun (n3:Nat) (hn:w.heap.size≤n3) W (h:Bw w W) (hn3:n3 < W.heap.size) => xmerge_any b l r ba la ra bc lc rc (n3 :: X) W (fun k hk => by rcases List.mem_cons.1 hk with rfl | hk;exact hn3;exact Nat.lt_of_lt_of_le (hX k hk) h.size) ((hb.more hn).below h) ((hl.more hn).below h) ((hr.more hn).below h) hNb hNl hNr);rw [hy] at HMG hsm hnm;have HYY:=lH hy;have HNY:Hid (nodesN y≤4000000):=by show _≤_;omega
 have HBI:=lH hb;have HLI:=lH hl;have HRI:=lH hr;have HXX:=lH hX;have HSM:=lH hsm
 have HSS:Hid (∀ (i:Nat) (x:Ex),[b,l,r][i]? = some x→SmX 40000 x∧nodesN x≤4000000):=fun i x hx => by
  match i,hx with
  | 0,hx => cases hx;exact ⟨sb,by omega⟩
  | 1,hx => cases hx;exact ⟨sl,by omega⟩
  | 2,hx => cases hx;exact ⟨sr,by omega⟩
 obtain ⟨gb,gl,gr,go,hA,hs4⟩:=four_boxes w 66 (xA b ba bc) (xA l la lc) (xA r ra rc) xZ;clear hX hb hl hr sb sl sr hsm hnm hy;unfold exV at *
 go_enter Tryz.func220,Tryz.ntmps220
 go_upto_region 1 with (fail)
 generalize ((((w.alloc (.cells (xA b ba bc) 66)).alloc (.cells (xA l la lc) 66)).alloc (.cells (xA r ra rc) 66)).alloc (.cells xZ 66)) = W0 at *;generalize hn1:w.heap.size + 1 = n1 at *;generalize hn2:n1 + 1 = n2 at *;generalize hn3:n2 + 1 = n3 at *;have m1:w.heap.size < n1:=by omega
 have m2:n1 < n2:=by omega
 have m3:n2 < n3:=by omega
 have hsW:n3 < W0.heap.size:=by omega
 have hwW:w.heap.size≤W0.heap.size:=by omega
 clear hn1 hn2 hn3 hs4;have Gb:=lH gb;have Gl:=lH gl;have Gr:=lH gr;have Go:=lH go;clear gb gl gr go;obtain ⟨b0,b1,b2,b3,b4,b5,bl⟩:=cells6 Gb.out;obtain ⟨l0,l1,l2,l3,l4,l5,ll⟩:=cells6 Gl.out;obtain ⟨r0,r1,r2,r3,r4,r5,rl⟩:=cells6 Gr.out
 have hb1:=qalloc W0 (.cells #[.int .i64 b.kind,.string b.name,.string b.more,.int .i64 b.num,.int .i64 b.den,.slice ba b.subs.length bc,.int .i64 l.kind,.string l.name,.string l.more,.int .i64 l.num,.int .i64 l.den,.slice la l.subs.length lc,.int .i64 r.kind,.string r.name,.string r.more,.int .i64 r.num,.int .i64 r.den,.slice ra r.subs.length rc] 66)
 have HR1:Hid (Reads _ [] (subsT [b,l,r]) (.slice (some ⟨W0.heap.size,0,none⟩) 3 3)):=three_reads (CBox.new W0 66 #[.int .i64 b.kind,.string b.name,.string b.more,.int .i64 b.num,.int .i64 b.den,.slice ba b.subs.length bc,.int .i64 l.kind,.string l.name,.string l.more,.int .i64 l.num,.int .i64 l.den,.slice la l.subs.length lc,.int .i64 r.kind,.string r.name,.string r.more,.int .i64 r.num,.int .i64 r.den,.slice ra r.subs.length rc]) (HBI.out.below (qtrans hA hb1)).subs.free (HLI.out.below (qtrans hA hb1)).subs.free (HRI.out.below (qtrans hA hb1)).subs.free
 go_upto_region 2 with (fail)
 generalize World.alloc W0 _ = W1 at *;obtain ⟨R,hR⟩:∃ R,W0.heap.size = R:=⟨_,rfl⟩;rw [hR] at HR1 ⊢;clear hR;clear b0 b1 b2 b3 b4 b5 bl;clear l0 l1 l2 l3 l4 l5 ll;clear r0 r1 r2 r3 r4 r5 rl;have hw1:=qtrans hA hb1;have HW1:=lH hw1;have HB1:=lH hb1;clear hb1 hw1
 go_loopw [17] (fun iv wr => ∃ i:Nat,i≤3∧iv = .int .i64 i∧Hid (∀ j z,j < i→[b,l,r][j]? = some z→exprErr z = 0)∧Hid (Bw W1 wr)) (fun iv _ => 3 - (intOf iv).toNat)
 case atStart => exact ⟨0,Nat.zero_le _,rfl,fun j z hj => absurd hj (Nat.not_lt_zero _),qrefl _⟩
 case round =>
  obtain ⟨i,hil,rfl,HI,HB⟩:=hrel;have hbr:Bw W0 wr:=HB1.out.trans (HB.out.mono HB1.out.size);have hwr:Bw w wr:=HW1.out.trans (HB.out.mono HW1.out.size)
  by_cases hi:i < 3
  ·have hd:decide ((i:Int) < 3) = true:=decide_eq_true (by omega)
   have hir:(i:Int) < 3:=by omega
   obtain ⟨x,hx⟩:∃ x,[b,l,r][i]? = some x:=⟨_,List.getElem?_eq_getElem (show i < [b,l,r].length from hi)⟩;obtain ⟨bb,oo,sa,cs,ha,hbb,c0,c1,c2,c3,c4,c5,hx1,hx2,hxr⟩:=subs_elem (HR1.out.below HB.out) hx
   injection ha with ha
   injection ha with ha1 ha2
   subst ha1 ha2;simp only [Nat.zero_add] at c0 c1 c2 c3 c4 c5
   obtain ⟨hxs,hxn⟩:=HSS.out i x hx;have hC0:=qalloc wr (.cells (xA x sa cs) 66);have HC:=lH (HCK.out x sa cs (wr.alloc (.cells (xA x sa cs) 66)) (hxr.out.below hC0) hx1 hx2 hxs hxn);have HER:=lH (fun h => mergeXErr_at hx HI.out h)
   have HIN:Hid (exprErr x = 0→∀ j z,j < i + 1→[b,l,r][j]? = some z→exprErr z = 0):=fun h j z hj hz => by
    by_cases hji:j = i
    ·subst hji;rw [hx] at hz;cases hz;exact h
    ·exact HI.out j z (by omega) hz
   clear hxs hxn hx hxr hx1 hx2 HI;generalize exprErr x = q at *;go_wp2_with (fail)
   refine HC.out.mono ?_;rintro e w4 ⟨rfl,hb4⟩;have hb5:=qtrans hC0 hb4;have HB5:Hid (Bw W1 w4):=HB.out.trans (hb5.mono HB.out.size);have hbr5:=hbr.trans (hb5.mono hbr.size);have hwr5:=hwr.trans (hb5.mono hwr.size);clear HC hb4 hC0 c0 c1 c2 c3 c4 c5 hbr hwr hb5
   by_cases hq:q = 0
   ·have q3:(q != 0) = false:=by rw [hq];rfl
    have HIN:=lH (HIN.out hq);clear hq HER;go_wp2;go_roundw
    case rel => exact ⟨i + 1,by omega,by go_num,HIN,HB5⟩
    case measure => simp [intOf];omega
   ·have q3:(q != 0) = true:=by simp [hq]
    have HER:=lH (HER.out hq);have HQ:=lH hq;clear hq;obtain ⟨o0,o1,o2,o3,o4,o5,ol⟩:=cells6 (Go.out.below hbr5);obtain ⟨fo0,fo1,fo2,fo3,fo4,fo5⟩:=frozen6 (Go.out.below hbr5);go_wp2;clear o0 o1 o2 o3 o4 o5 fo0 fo1 fo2 fo3 fo4 fo5 ol;obtain ⟨HC9,HM9⟩:=CBox.six (Go.out.below hbr5) (.int .i64 0) (.string ⟨#[]⟩) (.string ⟨#[]⟩) (.int .i64 0) (.int .i64 0) (.slice none 0 0);generalize World.setCell _ ⟨n3,5,none⟩ _ = W9 at *;obtain ⟨r0,r1,r2,r3,r4,r5,-⟩:=cells6 HC9
    refine bodyPost_ret (by simp [results,Tryz.results220,go_sem,r0,r1,r2,r3,r4,r5];try rfl) rfl ?_;have hd9:Bw w W9:=hwr5.trans (HM9.upto hwr5.size (by intro k hk;simp at hk;omega));have h0:mergeXErr b l r = q:=HER.out;have hO:mergeXOut b l r = noX:=by unfold mergeXOut;rw [h0,if_neg HQ.out]
    refine ⟨none,0,?_,?_,hd9⟩
    ·rw [hO,h0];rfl
    ·rw [hO];exact noX_in _ _
  ·have hd:decide ((i:Int) < 3) = false:=decide_eq_false (by omega)
   obtain rfl:i = 3:=by omega
   have HALL:=lH (mergeXErr_all HI.out);rw [HYY.out] at HALL;have HM3:=lH (HMG.out n3 (by omega) wr hwr (by have:=hbr.size;omega));clear HI HB HMG hil hi;obtain ⟨b0,b1,b2,b3,b4,b5,bl⟩:=cells6 (Gb.out.below hbr);obtain ⟨l0,l1,l2,l3,l4,l5,ll⟩:=cells6 (Gl.out.below hbr);obtain ⟨r0,r1,r2,r3,r4,r5,rl⟩:=cells6 (Gr.out.below hbr);go_wp2_with (fail)
   refine HM3.out.mono ?_;rintro e w5 ⟨ya,yc,rfl,hyx,hb5⟩;clear b0 b1 b2 b3 b4 b5 bl;clear l0 l1 l2 l3 l4 l5 ll;clear r0 r1 r2 r3 r4 r5 rl;have hC6:=qalloc w5 (.cells (xA y ya yc) 66);have HC6:=lH (CBox.new w5 66 (xA y ya yc));have hbr6:=hbr.trans ((qtrans hb5 hC6).mono hbr.size);have hwr6:=hwr.trans ((qtrans hb5 hC6).mono hwr.size);have HY6:=lH (hyx.below hC6);have HK6:=lH (HCK.out y ya yc _ HY6.out.subs.free HY6.out.h1 HY6.out.h2 HSM.out HNY.out);have hn5:n3 < w5.heap.size:=by have:=hbr.size;have:=hb5.size;omega
   clear hyx hb5 hC6 hbr hwr HM3;generalize exprErr y = q at *;go_wp2_with (fail)
   refine HK6.out.mono ?_;rintro e w7 ⟨rfl,hb7⟩;have hbr7:=hbr6.trans (hb7.mono hbr6.size);have hwr7:=hwr6.trans (hb7.mono hwr6.size);have HC7:=lH (HC6.out.below hb7);have HY7:=lH (HY6.out.below hb7);clear hb7 hbr6 hwr6 HC6 HY6 HK6;generalize w5.heap.size = E at *
   by_cases hq:q = 0
   ·have q3:(q != 0) = false:=by rw [hq];rfl
    have HQ:=lH hq;clear hq;obtain ⟨o0,o1,o2,o3,o4,o5,ol⟩:=cells6 (Go.out.below hbr7);obtain ⟨fo0,fo1,fo2,fo3,fo4,fo5⟩:=frozen6 (Go.out.below hbr7);obtain ⟨e0,e1,e2,e3,e4,e5,el⟩:=cells6 HC7.out;go_wp2;clear o0 o1 o2 o3 o4 o5 fo0 fo1 fo2 fo3 fo4 fo5 ol e0 e1 e2 e3 e4 e5 el;obtain ⟨HC9,HM9⟩:=CBox.six (Go.out.below hbr7) (.int .i64 y.kind) (.string y.name) (.string y.more) (.int .i64 y.num) (.int .i64 y.den) (.slice ya y.subs.length yc);generalize World.setCell _ ⟨n3,5,none⟩ _ = W9 at *;obtain ⟨r0,r1,r2,r3,r4,r5,-⟩:=cells6 HC9
    refine bodyPost_ret (by simp [results,Tryz.results220,go_sem,r0,r1,r2,r3,r4,r5];try rfl) rfl ?_;have hd9:Bw w W9:=hwr7.trans (HM9.upto hwr7.size (by intro k hk;simp at hk;omega));have h0:mergeXErr b l r = 0:=by rw [HALL.out,if_pos HQ.out]
    have hO:mergeXOut b l r = y:=by unfold mergeXOut;rw [h0,if_pos rfl];exact HYY.out
    refine ⟨ya,yc,?_,?_,hd9⟩
    ·rw [hO,h0];rfl
    ·rw [hO];exact (HY7.out.mod (HM9.mono inC)).fewer inT
   ·have q3:(q != 0) = true:=by simp [hq]
    have HQ:=lH hq;clear hq;obtain ⟨o0,o1,o2,o3,o4,o5,ol⟩:=cells6 (Go.out.below hbr7);obtain ⟨fo0,fo1,fo2,fo3,fo4,fo5⟩:=frozen6 (Go.out.below hbr7);go_wp2;clear o0 o1 o2 o3 o4 o5 fo0 fo1 fo2 fo3 fo4 fo5 ol;obtain ⟨HC9,HM9⟩:=CBox.six (Go.out.below hbr7) (.int .i64 0) (.string ⟨#[]⟩) (.string ⟨#[]⟩) (.int .i64 0) (.int .i64 0) (.slice none 0 0);generalize World.setCell _ ⟨n3,5,none⟩ _ = W9 at *;obtain ⟨r0,r1,r2,r3,r4,r5,-⟩:=cells6 HC9;refine bodyPost_ret (by simp [results,Tryz.results220,go_sem,r0,r1,r2,r3,r4,r5];try rfl) rfl ?_
    have hd9:Bw w W9:=hwr7.trans (HM9.upto hwr7.size (by intro k hk;simp at hk;omega));have h0:mergeXErr b l r = 4:=by rw [HALL.out,if_neg HQ.out]
    have hO:mergeXOut b l r = noX:=by unfold mergeXOut;rw [h0,if_neg (by decide)]
    refine ⟨none,0,?_,?_,hd9⟩
    ·rw [hO,h0];rfl
    ·rw [hO];exact noX_in _ _
end Go.Proofs.YtdpnfkjafhbndaaGreatDoor

