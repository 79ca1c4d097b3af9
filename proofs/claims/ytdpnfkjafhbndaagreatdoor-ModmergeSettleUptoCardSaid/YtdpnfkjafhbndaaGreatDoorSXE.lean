/- exprmerge.Merge and the reference's. exprmerge.conflicts: how often its iterator hands out; Conflicts, Clean. -/
import Derived.Test.YtdpnfkjafhbndaaGreatDoorSXC
import Derived.Test.YtdpnfkjafhbndaaGreatDoorSNC
import Derived.Test.YtdpnfkjafhbndaaGreatDoorSSyK
namespace Go.Proofs.YtdpnfkjafhbndaaGreatDoor
open Go.RowKit Go.Shelf
attribute [local go_sem] Oper.semAt_some
theorem mergeXErr_at {b l r x:Ex} {i:Nat} (hi:[b,l,r][i]? = some x) (h:∀ j y,j < i→[b,l,r][j]? = some y→exprErr y = 0) (hx:exprErr x≠0):mergeXErr b l r = exprErr x:=by
 match i,hi with
 | 0,hi => cases hi;unfold mergeXErr;rw [if_neg hx]
 | 1,hi => cases hi;unfold mergeXErr;rw [if_pos (h 0 b (by omega) rfl),if_neg hx]
 | 2,hi => cases hi;unfold mergeXErr;rw [if_pos (h 0 b (by omega) rfl),if_pos (h 1 l (by omega) rfl),if_neg hx]
theorem mergeXErr_all {b l r:Ex} (h:∀ j y,j < 3→[b,l,r][j]? = some y→exprErr y = 0):mergeXErr b l r = if exprErr (mergeX b l r) = 0 then 0 else 4:=by
 unfold mergeXErr;rw [if_pos (h 0 b (by omega) rfl),if_pos (h 1 l (by omega) rfl),if_pos (h 2 r (by omega) rfl)]
theorem three_reads {w:World} {b l r:Ex} {ba la ra:Option Addr} {bc lc rc:Nat} {R:Nat} (h:CBox w R 66 #[.int .i64 b.kind,.string b.name,.string b.more,.int .i64 b.num,.int .i64 b.den,.slice ba b.subs.length bc,.int .i64 l.kind,.string l.name,.string l.more,.int .i64 l.num,.int .i64 l.den,.slice la l.subs.length lc,.int .i64 r.kind,.string r.name,.string r.more,.int .i64 r.num,.int .i64 r.den,.slice ra r.subs.length rc])
  (hb:Reads w [] (subsT b.subs) (.slice ba b.subs.length bc)) (hl:Reads w [] (subsT l.subs) (.slice la l.subs.length lc)) (hr:Reads w [] (subsT r.subs) (.slice ra r.subs.length rc)):Reads w [] (subsT [b,l,r]) (.slice (some ⟨R,0,none⟩) 3 3):=
 clash_reads h (by simp) hb hl hr
structure MergedX (b l r:Ex) (X:List Nat) (w:World) (e:Ending) (w':World):Prop where
  of ::
  out:∃ a c,e = .returned (.tuple #[exV (mergeXOut b l r) a c,.int .i64 (mergeXErr b l r)])∧ExIn w' X (mergeXOut b l r) a c∧Below w.heap.size w w'
theorem noX_in (w:World) (X:List Nat):ExIn w X noX none 0:=⟨Reads.nilRow w X 6 exprT,Nat.le_refl _,Nat.zero_le _⟩
set_option maxRecDepth 100000 in
set_option maxHeartbeats 8000000 in
theorem xMerge_any (b l r:Ex) (ba la ra:Option Addr) (bc lc rc:Nat) (X:List Nat) (w:World) (hX:∀ k,k∈X→k < w.heap.size) (hb:ExIn w X b ba bc) (hl:ExIn w X l la lc) (hr:ExIn w X r ra rc) (sb:SmX 40000 b) (sl:SmX 40000 l) (sr:SmX 40000 r) (hNb:nodesN b≤1000000) (hNl:nodesN l≤1000000) (hNr:nodesN r≤1000000) :
  Calls Tryz.prog 220 #[exV b ba bc,exV l la lc,exV r ra rc] w (MergedX b l r X w):=by
 have hsm:=mergeX_sm b l r sb sl sr;have hnm:=mergeX_nodes b l r;have HCK:=lH (fun (x:Ex) (a:Option Addr) (c:Nat) W (h:Reads W [] (subsT x.subs) (.slice a x.subs.length c)) (h1:x.subs.length≤c) (h2:c≤9223372036854775807) (hs:SmX 40000 x) (hN:nodesN x≤4000000) => CheckExpr_any x a c W h h1 h2 hs hN);obtain ⟨y,hy⟩:∃ y,mergeX b l r = y:=⟨_,rfl⟩
 have HMG:=lH (fun (n3:Nat) (hn:w.heap.size≤n3) W (h:Bw w W) (hn3:n3 < W.heap.size) => xmerge_any b l r ba la ra bc lc rc (n3 :: X) W (fun k hk => by rcases List.mem_cons.1 hk with rfl | hk;exact hn3;exact Nat.lt_of_lt_of_le (hX k hk) h.size) ((hb.more hn).below h) ((hl.more hn).below h) ((hr.more hn).below h) hNb hNl hNr);rw [hy] at HMG hsm hnm;have HYY:=lH hy;have HNY:Hid (nodesN y≤4000000):=by show _≤_;omega
 have HBI:=lH hb;have HLI:=lH hl;have HRI:=lH hr;have HXX:=lH hX;have HSM:=lH hsm
 have HSS:Hid (∀ (i:Nat) (x:Ex),[b,l,r][i]? = some x→SmX 40000 x∧nodesN x≤4000000):=fun i x hx => by
  match i,hx with
  | 0,hx => cases hx;exact ⟨sb,by omega⟩
  | 1,hx => cases hx;exact ⟨sl,by omega⟩
  | 2,hx => cases hx;exact ⟨sr,by omega⟩
 obtain ⟨gb,gl,gr,go,hA,hs4⟩:=four_boxes w 66 (xA b ba bc) (xA l la lc) (xA r ra rc) xZ;clear hX hb hl hr sb sl sr hsm hnm hy;unfold exV at *
 go_enter Tryz.func220,Tryz.ntmps220
 go_upto_region 1 with (fail)
 generalize ((((w.alloc (.cells (xA b ba bc) 66)).alloc (.cells (xA l la lc) 66)).alloc (.cells (xA r ra rc) 66)).alloc (.cells xZ 66)) = W0 at *;generalize hn1:w.heap.size + 1 = n1 at *;generalize hn2:n1 + 1 = n2 at *;generalize hn3:n2 + 1 = n3 at *;have m1:w.heap.size < n1:=by omega
 have m2:n1 < n2:=by omega
 have m3:n2 < n3:=by omega
 have hsW:n3 < W0.heap.size:=by omega
 have hwW:w.heap.size≤W0.heap.size:=by omega
 clear hn1 hn2 hn3 hs4;have Gb:=lH gb;have Gl:=lH gl;have Gr:=lH gr;have Go:=lH go;clear gb gl gr go;obtain ⟨b0,b1,b2,b3,b4,b5,bl⟩:=cells6 Gb.out;obtain ⟨l0,l1,l2,l3,l4,l5,ll⟩:=cells6 Gl.out;obtain ⟨r0,r1,r2,r3,r4,r5,rl⟩:=cells6 Gr.out
 have hb1:=qalloc W0 (.cells #[.int .i64 b.kind,.string b.name,.string b.more,.int .i64 b.num,.int .i64 b.den,.slice ba b.subs.length bc,.int .i64 l.kind,.string l.name,.string l.more,.int .i64 l.num,.int .i64 l.den,.slice la l.subs.length lc,.int .i64 r.kind,.string r.name,.string r.more,.int .i64 r.num,.int .i64 r.den,.slice ra r.subs.length rc] 66)
 have HR1:Hid (Reads _ [] (subsT [b,l,r]) (.slice (some ⟨W0.heap.size,0,none⟩) 3 3)):=three_reads (CBox.new W0 66 #[.int .i64 b.kind,.string b.name,.string b.more,.int .i64 b.num,.int .i64 b.den,.slice ba b.subs.length bc,.int .i64 l.kind,.string l.name,.string l.more,.int .i64 l.num,.int .i64 l.den,.slice la l.subs.length lc,.int .i64 r.kind,.string r.name,.string r.more,.int .i64 r.num,.int .i64 r.den,.slice ra r.subs.length rc]) (HBI.out.below (qtrans hA hb1)).subs.free (HLI.out.below (qtrans hA hb1)).subs.free (HRI.out.below (qtrans hA hb1)).subs.free
 go_upto_region 2 with (fail)
 generalize World.alloc W0 _ = W1 at *;obtain ⟨R,hR⟩:∃ R,W0.heap.size = R:=⟨_,rfl⟩;rw [hR] at HR1 ⊢;clear hR;clear b0 b1 b2 b3 b4 b5 bl;clear l0 l1 l2 l3 l4 l5 ll;clear r0 r1 r2 r3 r4 r5 rl;have hw1:=qtrans hA hb1;have HW1:=lH hw1;have HB1:=lH hb1;clear hb1 hw1
 go_loopw [17] (fun iv wr => ∃ i:Nat,i≤3∧iv = .int .i64 i∧Hid (∀ j z,j < i→[b,l,r][j]? = some z→exprErr z = 0)∧Hid (Bw W1 wr)) (fun iv _ => 3 - (intOf iv).toNat)
 case atStart => exact ⟨0,Nat.zero_le _,rfl,fun j z hj => absurd hj (Nat.not_lt_zero _),qrefl _⟩
 case round =>
  obtain ⟨i,hil,rfl,HI,HB⟩:=hrel;have hbr:Bw W0 wr:=HB1.out.trans (HB.out.mono HB1.out.size);have hwr:Bw w wr:=HW1.out.trans (HB.out.mono HW1.out.size)
  by_cases hi:i < 3
  ·have hd:decide ((i:Int) < 3) = true:=decide_eq_true (by omega)
   have hir:(i:Int) < 3:=by omega
   obtain ⟨x,hx⟩:∃ x,[b,l,r][i]? = some x:=⟨_,List.getElem?_eq_getElem (show i < [b,l,r].length from hi)⟩;obtain ⟨bb,oo,sa,cs,ha,hbb,c0,c1,c2,c3,c4,c5,hx1,hx2,hxr⟩:=subs_elem (HR1.out.below HB.out) hx
   injection ha with ha
   injection ha with ha1 ha2
   subst ha1 ha2;simp only [Nat.zero_add] at c0 c1 c2 c3 c4 c5
   obtain ⟨hxs,hxn⟩:=HSS.out i x hx;have hC0:=qalloc wr (.cells (xA x sa cs) 66);have HC:=lH (HCK.out x sa cs (wr.alloc (.cells (xA x sa cs) 66)) (hxr.out.below hC0) hx1 hx2 hxs hxn);have HER:=lH (fun h => mergeXErr_at hx HI.out h)
   have HIN:Hid (exprErr x = 0→∀ j z,j < i + 1→[b,l,r][j]? = some z→exprErr z = 0):=fun h j z hj hz => by
    by_cases hji:j = i
    ·subst hji;rw [hx] at hz;cases hz;exact h
    ·exact HI.out j z (by omega) hz
   clear hxs hxn hx hxr hx1 hx2 HI;generalize exprErr x = q at *;go_wp2_with (fail)
   refine HC.out.mono ?_;rintro e w4 ⟨rfl,hb4⟩;have hb5:=qtrans hC0 hb4;have HB5:Hid (Bw W1 w4):=HB.out.trans (hb5.mono HB.out.size);have hbr5:=hbr.trans (hb5.mono hbr.size);have hwr5:=hwr.trans (hb5.mono hwr.size);clear HC hb4 hC0 c0 c1 c2 c3 c4 c5 hbr hwr hb5
   by_cases hq:q = 0
   ·have q3:(q != 0) = false:=by rw [hq];rfl
    have HIN:=lH (HIN.out hq);clear hq HER;go_wp2;go_roundw
    case rel => exact ⟨i + 1,by omega,by go_num,HIN,HB5⟩
    case measure => simp [intOf];omega
   ·have q3:(q != 0) = true:=by simp [hq]
    have HER:=lH (HER.out hq);have HQ:=lH hq;clear hq;obtain ⟨o0,o1,o2,o3,o4,o5,ol⟩:=cells6 (Go.out.below hbr5);obtain ⟨fo0,fo1,fo2,fo3,fo4,fo5⟩:=frozen6 (Go.out.below hbr5);go_wp2;clear o0 o1 o2 o3 o4 o5 fo0 fo1 fo2 fo3 fo4 fo5 ol;obtain ⟨HC9,HM9⟩:=CBox.six (Go.out.below hbr5) (.int .i64 0) (.string ⟨#[]⟩) (.string ⟨#[]⟩) (.int .i64 0) (.int .i64 0) (.slice none 0 0);generalize World.setCell _ ⟨n3,5,none⟩ _ = W9 at *;obtain ⟨r0,r1,r2,r3,r4,r5,-⟩:=cells6 HC9
    refine bodyPost_ret (by simp [results,Tryz.results220,go_sem,r0,r1,r2,r3,r4,r5];try rfl) rfl ?_;have hd9:Bw w W9:=hwr5.trans (HM9.upto hwr5.size (by intro k hk;simp at hk;omega));have h0:mergeXErr b l r = q:=HER.out;have hO:mergeXOut b l r = noX:=by unfold mergeXOut;rw [h0,if_neg HQ.out]
    refine ⟨none,0,?_,?_,hd9⟩
    ·rw [hO,h0];rfl
    ·rw [hO];exact noX_in _ _
  ·have hd:decide ((i:Int) < 3) = false:=decide_eq_false (by omega)
   obtain rfl:i = 3:=by omega
   have HALL:=lH (mergeXErr_all HI.out);rw [HYY.out] at HALL;have HM3:=lH (HMG.out n3 (by omega) wr hwr (by have:=hbr.size;omega));clear HI HB HMG hil hi;obtain ⟨b0,b1,b2,b3,b4,b5,bl⟩:=cells6 (Gb.out.below hbr);obtain ⟨l0,l1,l2,l3,l4,l5,ll⟩:=cells6 (Gl.out.below hbr);obtain ⟨r0,r1,r2,r3,r4,r5,rl⟩:=cells6 (Gr.out.below hbr);go_wp2_with (fail)
   refine HM3.out.mono ?_;rintro e w5 ⟨ya,yc,rfl,hyx,hb5⟩;clear b0 b1 b2 b3 b4 b5 bl;clear l0 l1 l2 l3 l4 l5 ll;clear r0 r1 r2 r3 r4 r5 rl;have hC6:=qalloc w5 (.cells (xA y ya yc) 66);have HC6:=lH (CBox.new w5 66 (xA y ya yc));have hbr6:=hbr.trans ((qtrans hb5 hC6).mono hbr.size);have hwr6:=hwr.trans ((qtrans hb5 hC6).mono hwr.size);have HY6:=lH (hyx.below hC6);have HK6:=lH (HCK.out y ya yc _ HY6.out.subs.free HY6.out.h1 HY6.out.h2 HSM.out HNY.out);have hn5:n3 < w5.heap.size:=by have:=hbr.size;have:=hb5.size;omega
   clear hyx hb5 hC6 hbr hwr HM3;generalize exprErr y = q at *;go_wp2_with (fail)
   refine HK6.out.mono ?_;rintro e w7 ⟨rfl,hb7⟩;have hbr7:=hbr6.trans (hb7.mono hbr6.size);have hwr7:=hwr6.trans (hb7.mono hwr6.size);have HC7:=lH (HC6.out.below hb7);have HY7:=lH (HY6.out.below hb7);clear hb7 hbr6 hwr6 HC6 HY6 HK6;generalize w5.heap.size = E at *
   by_cases hq:q = 0
   ·have q3:(q != 0) = false:=by rw [hq];rfl
    have HQ:=lH hq;clear hq;obtain ⟨o0,o1,o2,o3,o4,o5,ol⟩:=cells6 (Go.out.below hbr7);obtain ⟨fo0,fo1,fo2,fo3,fo4,fo5⟩:=frozen6 (Go.out.below hbr7);obtain ⟨e0,e1,e2,e3,e4,e5,el⟩:=cells6 HC7.out;go_wp2;clear o0 o1 o2 o3 o4 o5 fo0 fo1 fo2 fo3 fo4 fo5 ol e0 e1 e2 e3 e4 e5 el;obtain ⟨HC9,HM9⟩:=CBox.six (Go.out.below hbr7) (.int .i64 y.kind) (.string y.name) (.string y.more) (.int .i64 y.num) (.int .i64 y.den) (.slice ya y.subs.length yc);generalize World.setCell _ ⟨n3,5,none⟩ _ = W9 at *;obtain ⟨r0,r1,r2,r3,r4,r5,-⟩:=cells6 HC9
    refine bodyPost_ret (by simp [results,Tryz.results220,go_sem,r0,r1,r2,r3,r4,r5];try rfl) rfl ?_;have hd9:Bw w W9:=hwr7.trans (HM9.upto hwr7.size (by intro k hk;simp at hk;omega));have h0:mergeXErr b l r = 0:=by rw [HALL.out,if_pos HQ.out]
    have hO:mergeXOut b l r = y:=by unfold mergeXOut;rw [h0,if_pos rfl];exact HYY.out
    refine ⟨ya,yc,?_,?_,hd9⟩
    ·rw [hO,h0];rfl
    ·rw [hO];exact (HY7.out.mod (HM9.mono inC)).fewer inT
   ·have q3:(q != 0) = true:=by simp [hq]
    have HQ:=lH hq;clear hq;obtain ⟨o0,o1,o2,o3,o4,o5,ol⟩:=cells6 (Go.out.below hbr7);obtain ⟨fo0,fo1,fo2,fo3,fo4,fo5⟩:=frozen6 (Go.out.below hbr7);go_wp2;clear o0 o1 o2 o3 o4 o5 fo0 fo1 fo2 fo3 fo4 fo5 ol;obtain ⟨HC9,HM9⟩:=CBox.six (Go.out.below hbr7) (.int .i64 0) (.string ⟨#[]⟩) (.string ⟨#[]⟩) (.int .i64 0) (.int .i64 0) (.slice none 0 0);generalize World.setCell _ ⟨n3,5,none⟩ _ = W9 at *;obtain ⟨r0,r1,r2,r3,r4,r5,-⟩:=cells6 HC9;refine bodyPost_ret (by simp [results,Tryz.results220,go_sem,r0,r1,r2,r3,r4,r5];try rfl) rfl ?_
    have hd9:Bw w W9:=hwr7.trans (HM9.upto hwr7.size (by intro k hk;simp at hk;omega));have h0:mergeXErr b l r = 4:=by rw [HALL.out,if_neg HQ.out]
    have hO:mergeXOut b l r = noX:=by unfold mergeXOut;rw [h0,if_neg (by decide)]
    refine ⟨none,0,?_,?_,hd9⟩
    ·rw [hO,h0];rfl
    ·rw [hO];exact noX_in _ _
def sumC:List (List Ex)→Nat
 | [] => 0
 | s :: r => confL s + sumC r
def sumN:List (List Ex)→Nat
 | [] => 0
 | s :: r => nodesL s + sumN r
theorem conf_nodes (x:Ex):confX x≤nodesN x:=by
 refine Ex.ind (P:=fun x => confX x≤nodesN x) (fun x ih => ?_) x;rw [confX_eq,nodesN_eq]
 have:∀ l:List Ex,(∀ y∈l,confX y≤nodesN y)→confL l≤nodesL l:=by
  intro l
  induction l with
  | nil => intro _;exact Nat.le_refl _
  | cons y r ihr =>
   intro h;rw [confL,nodesL];have h1:=h y (List.mem_cons_self ..);have h2:=ihr fun z hz => h z (List.mem_cons_of_mem _ hz);omega
 have:=this _ ih;split <;> omega
theorem xconfl_any (x:Ex) (a:Option Addr) (c:Nat) (w:World):Calls Tryz.prog 187 #[exV x a c] w fun e w' =>
  e = .returned (.func (.func 228) #[] #[.pointer (some ⟨w.heap.size,0,none⟩)])∧w.alloc (.cells (xA x a c) 66) = w':=by
 unfold exV
 go_enter Tryz.func187,Tryz.ntmps187
 go_wp2;go_ret;exact ⟨rfl,rfl⟩
def oneArg (_:Nat) (args:Array Value) (_:World):Prop:=∃ v,args = #[v]
set_option maxRecDepth 100000 in
set_option maxHeartbeats 6000000 in
theorem xconfl1_iter (x:Ex) (a:Option Addr) (c:Nat) (w:World) (Be:Nat) (X:List Nat) (hX:∀ k,k∈X→k < w.heap.size)
  (hbox:CBox w Be 66 (xA x a c)) (hr:Reads w X (subsT x.subs) (.slice a x.subs.length c)) (hN:nodesN x≤4000000) :
  IterR Fence.wide 4 Tryz.prog 228 #[.pointer (some ⟨Be,0,none⟩)] (confX x) oneArg (KpX X) (AbN w.heap.size) w:=by
 intro l J Jx W hW hJ hJx hY h0;have hsz:=hW.size;have hbW:=hbox.below hW;have hrW:=hr.below hW;obtain ⟨i0,hi,hz0,hz1,hz2⟩:=info_parts infoSubs;have HY:=lH hY;have HJ:=lH hJ;have HJx:=lH hJx;have hpos:=nodesN_pos x;have d0:=hbW.cell (i:=0) rfl;have d1:=hbW.cell (i:=1) rfl;have d2:=hbW.cell (i:=2) rfl;have d3:=hbW.cell (i:=3) rfl;have d4:=hbW.cell (i:=4) rfl;have d5:=hbW.cell (i:=5) rfl;have dl:=hbW.lt;have hq:=qalloc W (.cells (xA x a c) 66)
 have hXW:Hid (∀ k,k∈X→k < (W.alloc (.cells (xA x a c) 66)).heap.size):=fun k hk => Nat.lt_of_lt_of_le (hX k hk) (Nat.le_trans hsz hq.size);have hsb:w.heap.size≤(W.alloc (.cells (xA x a c) 66)).heap.size:=Nat.le_trans hsz hq.size
 have hone:Reads (W.alloc (.cells (xA x a c) 66)) X (subsT [x]) (.slice (some ⟨W.heap.size,0,none⟩) 1 1):=by
  refine Reads.ofRow (f:=exprT) (l:=[x]) (xs:=_) ⟨rfl,some ⟨W.heap.size,0,none⟩,1,rfl,Nat.le_refl _,by unfold maxLen;omega,fun _ => ⟨W.heap.size,0,rfl,by rw [World.size_alloc];omega,fun j u hj => ?_⟩⟩ (fun _ k hk => by cases hk;exact fun h => absurd (hX W.heap.size h) (by omega)) (ReadsL.append (ReadsL.nil _ _) (cells_expr (hrW.below hq)));rw [Nat.zero_add];exact (CBox.new W 66 (xA x a c)).cell (i:=j) (v:=u) (by rw [List.getElem?_toArray];simpa using hj)
 have hJ1:=hJ 0 W _ h0 (AbN.alloc W (.cells (xA x a c) 66));clear hY hJ hJx hW hbox hr h0 hq hrW hbW;show CallsIn Fence.wide 4 Tryz.prog 228 #[.func (.yield l) #[] #[],.pointer (some ⟨Be,0,none⟩)] W _
 refine callsIn_of_wp Tryz.func228 rfl trivial ?_ rfl;simp only [Tryz.ntmps228,List.size_toArray,List.length_cons,List.length_nil,Nat.reduceAdd,Nat.reduceSub,Array.replicate_succ,Array.replicate_zero,List.push_toArray,List.append_toArray,List.nil_append,List.cons_append]
 have hO4:=own_one (W.alloc (.cells (xA x a c) 66)) (W.alloc (.cells (xA x a c) 66)).heap.size (Nat.le_refl _) (.slice (some ⟨W.heap.size,0,none⟩) 1 1) 64;have hK4:KpX X (W.alloc (.cells (xA x a c) 66)) _:=KpX.below (qalloc (W.alloc (.cells (xA x a c) 66)) (.cells #[.slice (some ⟨W.heap.size,0,none⟩) 1 1] 64));have hJ4:=HJ.out 0 _ _ hJ1 (AbN.alloc (W.alloc (.cells (xA x a c) 66)) (.cells #[.slice (some ⟨W.heap.size,0,none⟩) 1 1] 64));rw [World.size_alloc] at hO4 hsb;simp only [World.size_alloc] at hXW
 gi_upto_region 1 with (fail)
 generalize hWb:W.alloc (.cells (xA x a c) 66) = Wb at *;have hBs:Wb.heap.size = W.heap.size + 1:=by rw [← hWb,World.size_alloc]
 generalize World.alloc Wb _ = W4 at *;clear hWb d0 d1 d2 d3 d4 d5 dl hJ1;generalize hBB:W.heap.size + 1 = B at *;clear hBB
 gi_loopg [3,4] (2 * nodesN x + 1) (fun g ov _ wr => ∃ (j:Nat) (st:List (List Ex)) (xs:List Value),wr.ownsRow B 64 1 ov st.length xs∧Hid (ReadsL Wb X (st.reverse.map subsT) xs)∧KpX X Wb wr∧Hid (j + sumC st = confX x)∧st.length + sumN st≤nodesN x + 1∧J j wr∧g = 2 * sumN st + st.length)
 case atStart => exact ⟨0,[[x]],_,hO4,ReadsL.cons hone (ReadsL.nil _ _),hK4,by show _ = _;simp [sumC,confL],by simp [sumN,nodesL];omega,hJ4,by simp [sumN,nodesL]⟩
 case round =>
  obtain ⟨j,st,xs,hown,HV,hkp,HC,hsk,hJk,hg⟩:=hrel;obtain ⟨oa,oc,rfl⟩:=owns_val hown;clear hO4 hK4 hJ4 hone
  cases st with
  | nil =>
   have hj:j = confX x:=by have:=HC.out;simpa [sumC] using this
   subst hj
   gi_wp2
   go_end0
   exact ⟨⟨_,rfl⟩,.inl hJk⟩
  | cons top r =>
   obtain ⟨ys,u,rfl,HV1,hu⟩:=readsL_snoc (show ReadsL Wb X (r.reverse.map subsT ++ [subsT top]) xs by have:=HV.out;simpa using this);have hyl:ys.length = r.length:=by have:=HV1.len;simpa using this
   have HV2:=lH HV1;obtain ⟨ta,tc,rfl,ht1,ht2⟩:=subs_val hu;obtain ⟨g,cur,rfl,hcell,hgB,hgl,hgf,hoc,hoc2,hheap⟩:=owns_cell hown (i:=r.length) (u:=.slice ta top.length tc) (by rw [List.getElem?_append_right (by omega),hyl,Nat.sub_self];rfl);have hgB9:Wb.heap.size≤g:=by omega
   have hrl:r.length + 1≤4000001:=by simp at hsk;omega
   have hw1:IntKind.i64.wrap (((r.length:Int) + 1) - 1) = (r.length:Int):=by rw [Int.add_sub_cancel];exact IntWalk.i64_in _ (by omega)
   have hr0:(0:Int)≤(r.length:Int):=by omega
   have hr1:(r.length:Int) < (r.length:Int) + 1:=by omega
   have hr2:(r.length:Int)≤(oc:Int):=by simp at hoc;omega
   have hoc':r.length + 1≤oc:=by simpa using hoc
   cases top with
   | nil =>
    have hpop:=owns_pop (xs:=ys) (n:=r.length) hown hyl;have HDp:Hid (j + sumC r = confX x):=by have:=HC.out;show _ = _;simp only [sumC,confL,Nat.zero_add] at this;exact this
    have hsk':r.length + sumN r≤nodesN x + 1:=by simp [sumN,nodesL] at hsk;omega
    have hgg:=hg;simp only [sumN,nodesL,List.length_cons,Nat.zero_add] at hgg
    simp only [List.length_cons,List.length_nil] at hown hg hcell ⊢
    clear hown HV hu
    gi_wp2
    go_roundg (2 * sumN r + r.length)
    all_goals first | omega | exact ⟨j,r,ys,hpop,HV2,hkp,HDp,hsk',hJk,rfl⟩
   | cons y s =>
    obtain ⟨b,o,sa,sc,rfl,hbl,c0,c1,c2,c3,c4,c5,hs1,hs2,hsr⟩:=subs_elem hu (i:=0) (x:=y) rfl
    have hbX:b ∉ X:=by
     have h:=hu;rw [subsT,rowT,Reads] at h;obtain ⟨_,_,h2,_⟩:=h;exact h2 (by simp) b rfl
    simp only [Nat.zero_mul,Nat.add_zero] at c0 c1 c2 c3 c4 c5
    replace hbl:b < wr.heap.size:=Nat.lt_of_lt_of_le hbl hkp.size;replace c0:=hkp.cell hbX c0;replace c1:=hkp.cell hbX c1;replace c2:=hkp.cell hbX c2;replace c3:=hkp.cell hbX c3;replace c4:=hkp.cell hbX c4;replace c5:=hkp.cell hbX c5
    have HCn:Hid (j + (if y.kind = 15 then 1 else 0) + sumC (y.subs :: s :: r) = confX x):=by
     have:=HC.out;show _ = _
     simp only [sumC,confL,confX_eq y] at this ⊢
     omega
    have hns:nodesN y = 1 + nodesL y.subs:=nodesN_eq y;have hsn':(y.subs :: s :: r).length + sumN (y.subs :: s :: r)≤nodesN x + 1:=by simp only [sumN,nodesL,List.length_cons] at hsk ⊢;omega
    have hgg:=hg;simp only [sumN,nodesL,List.length_cons] at hgg
    have hsum:sumN (y.subs :: s :: r) = nodesL y.subs + (nodesL s + sumN r):=rfl;simp only [List.length_cons] at ht1 hown hcell hg hsk hu
    have hs0:(0:Int)≤(s.length:Int):=by omega
    have hsn:¬ (s.length:Int) + 1 = 0:=by omega
    rcases Nat.lt_or_ge 1 tc with h1c | h1c
    ·have HVr:Hid (Reads Wb X (subsT s) (.slice (some ⟨b,o + 6,none⟩) s.length (tc - 1))):=Reads.dropRow (size:=6) (f:=exprT) exprT_len (i:=1) hu (by simp)
     have hown5:=(owns_set hown hyl (.slice (some ⟨b,o + 6,none⟩) s.length (tc - 1))).alloc (.cells (xA y sa sc) 66);have hk5:=(hkp.fresh (p:=⟨g,r.length,none⟩) (by show _≤g;omega) (.slice (some ⟨b,o + 6,none⟩) s.length (tc - 1))).alloc (.cells (xA y sa sc) 66);have hJ5:=HJ.out j wr _ hJk (((AbN.refl w.heap.size wr).set (p:=⟨g,r.length,none⟩) (Nat.le_trans hsb hgB) hheap (.slice (some ⟨b,o + 6,none⟩) s.length (tc - 1))).trans (AbN.alloc _ (.cells (xA y sa sc) 66)))
     have hb5:CBox ((wr.setCell ⟨g,r.length,none⟩ (.slice (some ⟨b,o + 6,none⟩) s.length (tc - 1))).alloc (.cells (xA y sa sc) 66)) wr.heap.size 66 (xA y sa sc):=by
      have:=CBox.new (wr.setCell ⟨g,r.length,none⟩ (.slice (some ⟨b,o + 6,none⟩) s.length (tc - 1))) 66 (xA y sa sc);rwa [show (wr.setCell ⟨g,r.length,none⟩ (.slice (some ⟨b,o + 6,none⟩) s.length (tc - 1))).heap.size = wr.heap.size by simp [World.setCell]] at this
     gi_upto_region 7 with (fail)
     generalize (wr.setCell ⟨g,r.length,none⟩ (.slice (some ⟨b,o + 6,none⟩) s.length (tc - 1))).alloc (.cells (xA y sa sc) 66) = W5 at *;have HB5:=lH hb5;have HO5:=lH hown5;have hszr:=hkp.size;generalize hV:wr.heap.size = V at *;obtain ⟨f0,f1,f2,f3,f4,f5,fl⟩:=cells6 hb5;clear hb5 hown5 c0 c1 c2 c3 c4 c5 hcell hheap hV
     by_cases hk15:y.kind = 15
     ·rw [if_pos hk15] at HCn
      have k15:(y.kind == 15) = true:=by rw [hk15];rfl
      have hj:j < confX x:=by have:=HCn.out;omega
      have hy:=HY.out j hj #[exV y sa sc] _ hJ5 ⟨_,rfl⟩;obtain ⟨fn,tmps,assign,body,hy,hR⟩:=hy;unfold exV at hy;clear hk15
      gi_wp2
      refine hR.mono ?_;rintro e W7 (⟨rfl,hJ7,hk7⟩ | ⟨rfl,hJx7⟩)
      rotate_left
      ·clear hR hy
       gi_wp2
       refine bodyPost_ret (results_none rfl _ _ _) rfl ?_;exact ⟨⟨_,rfl⟩,.inr ⟨j + 1,by omega,hJx7⟩⟩
      have hb7:CBox W7 V 66 _:=hk7.box (fun hx => by have:=hXW.out _ hx;omega) HB5.out;have hown7:=owns_kp HO5.out hk7 hXW.out;have e5:=hb7.cell (i:=5) (v:=.slice sa y.subs.length sc) rfl;have el:=hb7.lt;have hk8:=(hk5.trans hk7).alloc (.cells #[.slice sa y.subs.length sc] 64);have hs8:=hk8.size;rw [World.size_alloc] at hs8;clear hR hy f0 f1 f2 f3 f4 f5 fl hb7 HB5 HO5 hbl hgf hgl
      gi_wp2_with (gi_at_builtin;refine wpListIn_append_own _ rfl _ _ 233 rfl B 64 i0 _ 1 24 Tryz.underlying233 hi hz0 hz1 hz2 rfl (by decide) _ _ _ rfl (hown7.alloc _) ⟨W7.heap.size,0,none⟩ 1 1 [.slice sa y.subs.length sc] rfl rfl (cell_one_new _ _ _) (by simp [Value.oneCell']) (by unfold maxLen;omega) (by omega) (by rw [World.size_alloc];omega) ?_;intro v' w1 hown' hgrow _)
      have HK:=hk8.grown hgrow (fun b' e' => by cases e';exact hgB9)
      have HJ8:=HJ.out (j + 1) W7 _ hJ7 ((AbN.alloc W7 (.cells #[.slice sa y.subs.length sc] 64)).grown hgrow (fun b' e' => by
       cases e'
       obtain ⟨g2,cur2,e2,_,_,_,_,_,_,h2⟩:=owns_cell (hown7.alloc (.cells #[.slice sa y.subs.length sc] 64)) (i:=r.length) (u:=.slice (some ⟨b,o + 6,none⟩) s.length (tc - 1)) (by rw [List.getElem?_append_right (by omega),hyl,Nat.sub_self];rfl)
       cases e2
       exact ⟨Nat.le_trans hsb hgB,_,_,_,h2⟩))
      go_roundg (2 * sumN (y.subs :: s :: r) + (r.length + 1 + 1))
      all_goals first | omega | exact ⟨j + 1,y.subs :: s :: r,_,hown',by simpa [Hid] using ReadsL.append (ReadsL.cons hsr.out (ReadsL.nil _ _)) (ReadsL.append (ReadsL.cons HVr.out (ReadsL.nil _ _)) HV2.out),HK,HCn,hsn',HJ8,rfl⟩
     ·rw [if_neg hk15,Nat.add_zero] at HCn
      have k15:(y.kind == 15) = false:=by simpa using hk15
      have hk8:=hk5.alloc (.cells #[.slice sa y.subs.length sc] 64);have hs8:=hk8.size;rw [World.size_alloc] at hs8;have hown7:=HO5.out;clear hk15 HB5 HO5 hbl hgf hgl;refine wpIn_wide.2 ?_;go_wp2_with (fail)
      gi_wp2_with (gi_at_builtin;refine wpListIn_append_own _ rfl _ _ 233 rfl B 64 i0 _ 1 24 Tryz.underlying233 hi hz0 hz1 hz2 rfl (by decide) _ _ _ rfl (hown7.alloc _) ⟨W5.heap.size,0,none⟩ 1 1 [.slice sa y.subs.length sc] rfl rfl (cell_one_new _ _ _) (by simp [Value.oneCell']) (by unfold maxLen;omega) (by omega) (by rw [World.size_alloc];omega) ?_;intro v' w1 hown' hgrow _)
      have HK:=hk8.grown hgrow (fun b' e' => by cases e';exact hgB9)
      have HJ8:=HJ.out j W5 _ hJ5 ((AbN.alloc W5 (.cells #[.slice sa y.subs.length sc] 64)).grown hgrow (fun b' e' => by
       cases e'
       obtain ⟨g2,cur2,e2,_,_,_,_,_,_,h2⟩:=owns_cell (hown7.alloc (.cells #[.slice sa y.subs.length sc] 64)) (i:=r.length) (u:=.slice (some ⟨b,o + 6,none⟩) s.length (tc - 1)) (by rw [List.getElem?_append_right (by omega),hyl,Nat.sub_self];rfl)
       cases e2
       exact ⟨Nat.le_trans hsb hgB,_,_,_,h2⟩))
      go_roundg (2 * sumN (y.subs :: s :: r) + (r.length + 1 + 1))
      all_goals first | omega | exact ⟨j,y.subs :: s :: r,_,hown',by simpa [Hid] using ReadsL.append (ReadsL.cons hsr.out (ReadsL.nil _ _)) (ReadsL.append (ReadsL.cons HVr.out (ReadsL.nil _ _)) HV2.out),HK,HCn,hsn',HJ8,rfl⟩
    ·obtain rfl:tc = 1:=by omega
     obtain rfl:s = []:=List.eq_nil_of_length_eq_zero (by omega);have HVr:Hid (Reads Wb X (subsT []) (.slice (some ⟨b,o,none⟩) 0 0)):=reads_noSubs _ _ _ _ (by omega);have hown5:=(owns_set hown hyl (.slice (some ⟨b,o,none⟩) 0 0)).alloc (.cells (xA y sa sc) 66);have hk5:=(hkp.fresh (p:=⟨g,r.length,none⟩) (by show _≤g;omega) (.slice (some ⟨b,o,none⟩) 0 0)).alloc (.cells (xA y sa sc) 66)
     have hJ5:=HJ.out j wr _ hJk (((AbN.refl w.heap.size wr).set (p:=⟨g,r.length,none⟩) (Nat.le_trans hsb hgB) hheap (.slice (some ⟨b,o,none⟩) 0 0)).trans (AbN.alloc _ (.cells (xA y sa sc) 66)))
     have hb5:CBox ((wr.setCell ⟨g,r.length,none⟩ (.slice (some ⟨b,o,none⟩) 0 0)).alloc (.cells (xA y sa sc) 66)) wr.heap.size 66 (xA y sa sc):=by
      have:=CBox.new (wr.setCell ⟨g,r.length,none⟩ (.slice (some ⟨b,o,none⟩) 0 0)) 66 (xA y sa sc);rwa [show (wr.setCell ⟨g,r.length,none⟩ (.slice (some ⟨b,o,none⟩) 0 0)).heap.size = wr.heap.size by simp [World.setCell]] at this
     gi_upto_region 7 with (fail)
     generalize (wr.setCell ⟨g,r.length,none⟩ (.slice (some ⟨b,o,none⟩) 0 0)).alloc (.cells (xA y sa sc) 66) = W5 at *;have HB5:=lH hb5;have HO5:=lH hown5;have hszr:=hkp.size;generalize hV:wr.heap.size = V at *;obtain ⟨f0,f1,f2,f3,f4,f5,fl⟩:=cells6 hb5;clear hb5 hown5 c0 c1 c2 c3 c4 c5 hcell hheap hV
     by_cases hk15:y.kind = 15
     ·rw [if_pos hk15] at HCn
      have k15:(y.kind == 15) = true:=by rw [hk15];rfl
      have hj:j < confX x:=by have:=HCn.out;omega
      have hy:=HY.out j hj #[exV y sa sc] _ hJ5 ⟨_,rfl⟩;obtain ⟨fn,tmps,assign,body,hy,hR⟩:=hy;unfold exV at hy;clear hk15
      gi_wp2
      refine hR.mono ?_;rintro e W7 (⟨rfl,hJ7,hk7⟩ | ⟨rfl,hJx7⟩)
      rotate_left
      ·clear hR hy
       gi_wp2
       refine bodyPost_ret (results_none rfl _ _ _) rfl ?_;exact ⟨⟨_,rfl⟩,.inr ⟨j + 1,by omega,hJx7⟩⟩
      have hb7:CBox W7 V 66 _:=hk7.box (fun hx => by have:=hXW.out _ hx;omega) HB5.out;have hown7:=owns_kp HO5.out hk7 hXW.out;have e5:=hb7.cell (i:=5) (v:=.slice sa y.subs.length sc) rfl;have el:=hb7.lt;have hk8:=(hk5.trans hk7).alloc (.cells #[.slice sa y.subs.length sc] 64);have hs8:=hk8.size;rw [World.size_alloc] at hs8;clear hR hy f0 f1 f2 f3 f4 f5 fl hb7 HB5 HO5 hbl hgf hgl
      gi_wp2_with (gi_at_builtin;refine wpListIn_append_own _ rfl _ _ 233 rfl B 64 i0 _ 1 24 Tryz.underlying233 hi hz0 hz1 hz2 rfl (by decide) _ _ _ rfl (hown7.alloc _) ⟨W7.heap.size,0,none⟩ 1 1 [.slice sa y.subs.length sc] rfl rfl (cell_one_new _ _ _) (by simp [Value.oneCell']) (by unfold maxLen;omega) (by omega) (by rw [World.size_alloc];omega) ?_;intro v' w1 hown' hgrow _)
      have HK:=hk8.grown hgrow (fun b' e' => by cases e';exact hgB9)
      have HJ8:=HJ.out (j + 1) W7 _ hJ7 ((AbN.alloc W7 (.cells #[.slice sa y.subs.length sc] 64)).grown hgrow (fun b' e' => by
       cases e'
       obtain ⟨g2,cur2,e2,_,_,_,_,_,_,h2⟩:=owns_cell (hown7.alloc (.cells #[.slice sa y.subs.length sc] 64)) (i:=r.length) (u:=.slice (some ⟨b,o,none⟩) 0 0) (by rw [List.getElem?_append_right (by omega),hyl,Nat.sub_self];rfl)
       cases e2
       exact ⟨Nat.le_trans hsb hgB,_,_,_,h2⟩))
      go_roundg (2 * sumN (y.subs :: [] :: r) + (r.length + 1 + 1))
      all_goals first | omega | exact ⟨j + 1,y.subs :: [] :: r,_,hown',by simpa [Hid] using ReadsL.append (ReadsL.cons hsr.out (ReadsL.nil _ _)) (ReadsL.append (ReadsL.cons HVr.out (ReadsL.nil _ _)) HV2.out),HK,HCn,hsn',HJ8,rfl⟩
     ·rw [if_neg hk15,Nat.add_zero] at HCn
      have k15:(y.kind == 15) = false:=by simpa using hk15
      have hk8:=hk5.alloc (.cells #[.slice sa y.subs.length sc] 64);have hs8:=hk8.size;rw [World.size_alloc] at hs8;have hown7:=HO5.out;clear hk15 HB5 HO5 hbl hgf hgl;refine wpIn_wide.2 ?_;go_wp2_with (fail)
      gi_wp2_with (gi_at_builtin;refine wpListIn_append_own _ rfl _ _ 233 rfl B 64 i0 _ 1 24 Tryz.underlying233 hi hz0 hz1 hz2 rfl (by decide) _ _ _ rfl (hown7.alloc _) ⟨W5.heap.size,0,none⟩ 1 1 [.slice sa y.subs.length sc] rfl rfl (cell_one_new _ _ _) (by simp [Value.oneCell']) (by unfold maxLen;omega) (by omega) (by rw [World.size_alloc];omega) ?_;intro v' w1 hown' hgrow _)
      have HK:=hk8.grown hgrow (fun b' e' => by cases e';exact hgB9)
      have HJ8:=HJ.out j W5 _ hJ5 ((AbN.alloc W5 (.cells #[.slice sa y.subs.length sc] 64)).grown hgrow (fun b' e' => by
       cases e'
       obtain ⟨g2,cur2,e2,_,_,_,_,_,_,h2⟩:=owns_cell (hown7.alloc (.cells #[.slice sa y.subs.length sc] 64)) (i:=r.length) (u:=.slice (some ⟨b,o,none⟩) 0 0) (by rw [List.getElem?_append_right (by omega),hyl,Nat.sub_self];rfl)
       cases e2
       exact ⟨Nat.le_trans hsb hgB,_,_,_,h2⟩))
      go_roundg (2 * sumN (y.subs :: [] :: r) + (r.length + 1 + 1))
      all_goals first | omega | exact ⟨j,y.subs :: [] :: r,_,hown',by simpa [Hid] using ReadsL.append (ReadsL.cons hsr.out (ReadsL.nil _ _)) (ReadsL.append (ReadsL.cons HVr.out (ReadsL.nil _ _)) HV2.out),HK,HCn,hsn',HJ8,rfl⟩
end Go.Proofs.YtdpnfkjafhbndaaGreatDoor

