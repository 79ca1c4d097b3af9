/- modmerge.choose, same; the reference's truth, names. Expressions alike, equal. -/
import Derived.Test.YtdpnfkjafhbndaaGreatDoorRNA
import Derived.Handy
namespace Go.Proofs.YtdpnfkjafhbndaaGreatDoor
open Go.RowKit Go.Shelf
attribute [local go_sem] Oper.semAt_some
theorem sameB_any (a b:Bool) (w:World):Calls Tryz.prog 158 #[.bool a,.bool b] w fun e w' => e = .returned (.bool (a == b))∧w' = w:=by
 go_enter Tryz.func158,Tryz.ntmps158
 go_wp2;go_ret;exact ⟨rfl,rfl⟩
theorem sameI_any (a b:Int) (w:World):Calls Tryz.prog 218 #[.int .i64 a,.int .i64 b] w fun e w' => e = .returned (.bool (a == b))∧w' = w:=by
 go_enter Tryz.func218,Tryz.ntmps218
 go_wp2;go_ret;exact ⟨rfl,rfl⟩
set_option maxHeartbeats 2000000 in
theorem chooseB_any (b l r:Bool) (w:World):Calls Tryz.prog 157 #[.bool b,.bool l,.bool r,.func (.func 158) #[] #[]] w fun e w' => e = .returned (.tuple #[.bool (truthB b l r),.bool true])∧w' = w:=by
 have HS:=lH (fun a b w => sameB_any a b w)
 cases b <;> cases l <;> cases r
 all_goals (
  go_enter Tryz.func157,Tryz.ntmps157
  go_wp2_with (go_at_call 158;refine (HS.out _ _ _).mono ?_;rintro e w' ⟨rfl,rfl⟩)
  go_returns
  exact ⟨rfl,rfl⟩)
def okI (b l r:Int):Bool:=(l == r) || ((r == b) || (l == b))
def pickI (b l r:Int):Int:=if (l == r) || (r == b) then l else if l == b then r else 0
set_option maxHeartbeats 2000000 in
theorem chooseI_any (b l r:Int) (w:World):Calls Tryz.prog 217 #[.int .i64 b,.int .i64 l,.int .i64 r,.func (.func 218) #[] #[]] w fun e w' => e = .returned (.tuple #[.int .i64 (pickI b l r),.bool (okI b l r)])∧w' = w:=by
 have HS:=lH (fun a b w => sameI_any a b w);unfold pickI okI
 cases h1:(l == r) with
 | true =>
  go_enter Tryz.func217,Tryz.ntmps217
  go_wp2_with (go_at_call 218;refine (HS.out _ _ _).mono ?_;rintro e w' ⟨rfl,rfl⟩)
  go_returns;exact ⟨rfl,rfl⟩
 | false =>
  cases h2:(r == b) with
  | true =>
   go_enter Tryz.func217,Tryz.ntmps217
   go_wp2_with (go_at_call 218;refine (HS.out _ _ _).mono ?_;rintro e w' ⟨rfl,rfl⟩)
   go_returns;exact ⟨rfl,rfl⟩
  | false =>
   cases h3:(l == b) with
   | true =>
    go_enter Tryz.func217,Tryz.ntmps217
    go_wp2_with (go_at_call 218;refine (HS.out _ _ _).mono ?_;rintro e w' ⟨rfl,rfl⟩)
    go_returns;exact ⟨rfl,rfl⟩
   | false =>
    go_enter Tryz.func217,Tryz.ntmps217
    go_wp2_with (go_at_call 218;refine (HS.out _ _ _).mono ?_;rintro e w' ⟨rfl,rfl⟩)
    go_returns;exact ⟨rfl,rfl⟩
def pickS (b l r:List ByteArray) (vl vr:Value):Value:=if sameSs l r || sameSs r b then vl else if sameSs l b then vr else .slice none 0 0
def okS (b l r:List ByteArray):Bool:=sameSs l r || (sameSs r b || sameSs l b)
set_option maxHeartbeats 2000000 in
theorem chooseS_any (b l r:List ByteArray) (ba la ra:Option Addr) (bc lc rc:Nat) (w:World) (hb:Strs w (.slice ba b.length bc) b) (hl:Strs w (.slice la l.length lc) l) (hr:Strs w (.slice ra r.length rc) r) (hll:l.length≤1000000) (hrl:r.length≤1000000) :
  Calls Tryz.prog 219 #[.slice ba b.length bc,.slice la l.length lc,.slice ra r.length rc,.func (.func 185) #[] #[]] w fun e w' => e = .returned (.tuple #[pickS b l r (.slice la l.length lc) (.slice ra r.length rc),.bool (okS b l r)])∧Bw w w':=by
 have H1:=lH (EqualS_any l r la ra lc rc w hl hr hll);have H2:=lH (fun W (h:Bw w W) => EqualS_any r b ra ba rc bc W (hr.below h) (hb.below h) hrl);have H3:=lH (fun W (h:Bw w W) => EqualS_any l b la ba lc bc W (hl.below h) (hb.below h) hll);clear hb hl hr;unfold pickS okS
 cases h1:sameSs l r with
 | true =>
  rw [h1] at H1;clear h1
  go_enter Tryz.func219,Tryz.ntmps219
  go_wp2_with (fail)
  refine H1.out.mono ?_;rintro e w1 ⟨rfl,hb1⟩;go_wp2;go_returns;exact ⟨rfl,hb1⟩
 | false =>
  rw [h1] at H1;clear h1
  cases h2:sameSs r b with
  | true =>
   rw [h2] at H2;clear h2
   go_enter Tryz.func219,Tryz.ntmps219
   go_wp2_with (fail)
   refine H1.out.mono ?_;rintro e w1 ⟨rfl,hb1⟩;go_wp2_with (fail)
   refine (H2.out _ hb1).mono ?_;rintro e w2 ⟨rfl,hb2⟩;have hB2:=qtrans hb1 hb2;go_wp2;go_returns;exact ⟨rfl,hB2⟩
  | false =>
   rw [h2] at H2;clear h2
   cases h3:sameSs l b with
   | true =>
    rw [h3] at H3;clear h3
    go_enter Tryz.func219,Tryz.ntmps219
    go_wp2_with (fail)
    refine H1.out.mono ?_;rintro e w1 ⟨rfl,hb1⟩;go_wp2_with (fail)
    refine (H2.out _ hb1).mono ?_;rintro e w2 ⟨rfl,hb2⟩;have hB2:=qtrans hb1 hb2;go_wp2_with (fail)
    refine (H3.out _ hB2).mono ?_;rintro e w3 ⟨rfl,hb3⟩;have hB3:=qtrans hB2 hb3;go_wp2;go_returns;exact ⟨rfl,hB3⟩
   | false =>
    rw [h3] at H3;clear h3
    go_enter Tryz.func219,Tryz.ntmps219
    go_wp2_with (fail)
    refine H1.out.mono ?_;rintro e w1 ⟨rfl,hb1⟩;go_wp2_with (fail)
    refine (H2.out _ hb1).mono ?_;rintro e w2 ⟨rfl,hb2⟩;have hB2:=qtrans hb1 hb2;go_wp2_with (fail)
    refine (H3.out _ hB2).mono ?_;rintro e w3 ⟨rfl,hb3⟩;have hB3:=qtrans hB2 hb3;go_wp2;go_returns;exact ⟨rfl,hB3⟩
-- GEN
set_option maxRecDepth 100000 in
set_option maxHeartbeats 4000000 in
theorem alike_any (x y:Ex) (a b:Option Addr) (c d:Nat) (w:World):Calls Tryz.prog 289 #[exV x a c,exV y b d] w fun e w' => e = .returned (.bool (alikeB x y))∧Bw w w':=by
 have hA2:∀ o1 o2,Bw w ((w.alloc o1).alloc o2):=fun _ _ => qtrans (qalloc _ _) (qalloc _ _);have hd6:((x.subs.length:Int) == (y.subs.length:Int)) = decide (x.subs.length = y.subs.length):=by by_cases h:x.subs.length = y.subs.length <;> simp [h];omega
 obtain ⟨k1,k2,k3,k4,k5,k6,e1,e2,e3,e4,e5,e6⟩:∃ k1 k2 k3 k4 k5 k6,(x.kind == y.kind) = k1∧(x.name.toList == y.name.toList) = k2∧(x.more.toList == y.more.toList) = k3∧(x.num == y.num) = k4∧(x.den == y.den) = k5∧((x.subs.length:Int) == (y.subs.length:Int)) = k6:=⟨_,_,_,_,_,_,rfl,rfl,rfl,rfl,rfl,rfl⟩
 have HR:Hid (alikeB x y = (k1 && (k2 && (k3 && (k4 && (k5 && k6)))))):=by
  show _ = _
  rw [← e1,← e2,← e3,← e4,← e5,← e6,hd6];rfl
 generalize alikeB x y = T at *;clear hd6;unfold exV
 cases k1 with
 | false =>
  go_enter Tryz.func289,Tryz.ntmps289
  go_wp2;go_ret;exact ⟨ret_bool (by rw [HR.out];rfl),hA2 _ _⟩
 | true =>
  cases k2 with
  | false =>
   go_enter Tryz.func289,Tryz.ntmps289
   go_wp2;go_ret;exact ⟨ret_bool (by rw [HR.out];rfl),hA2 _ _⟩
  | true =>
   cases k3 with
   | false =>
    go_enter Tryz.func289,Tryz.ntmps289
    go_wp2;go_ret;exact ⟨ret_bool (by rw [HR.out];rfl),hA2 _ _⟩
   | true =>
    cases k4 with
    | false =>
     go_enter Tryz.func289,Tryz.ntmps289
     go_wp2;go_ret;exact ⟨ret_bool (by rw [HR.out];rfl),hA2 _ _⟩
    | true =>
     cases k5 with
     | false =>
      go_enter Tryz.func289,Tryz.ntmps289
      go_wp2;go_ret;exact ⟨ret_bool (by rw [HR.out];rfl),hA2 _ _⟩
     | true =>
      cases k6 with
      | false =>
       go_enter Tryz.func289,Tryz.ntmps289
       go_wp2;go_ret;exact ⟨ret_bool (by rw [HR.out];rfl),hA2 _ _⟩
      | true =>
       go_enter Tryz.func289,Tryz.ntmps289
       go_wp2;go_ret;exact ⟨ret_bool (by rw [HR.out];rfl),hA2 _ _⟩
set_option maxRecDepth 100000 in
set_option maxHeartbeats 4000000 in
theorem equal_any (x:Ex):∀ (y:Ex) (a b:Option Addr) (c d:Nat) (w:World),Reads w [] (subsT x.subs) (.slice a x.subs.length c)→Reads w [] (subsT y.subs) (.slice b y.subs.length d)→nodesN x≤4000000 →
  Calls Tryz.prog 288 #[exV x a c,exV y b d] w fun e w' => e = .returned (.bool (sameX x y))∧Bw w w':=by
 refine Ex.ind (P:=fun x => ∀ (y:Ex) (a b:Option Addr) (c d:Nat) (w:World),Reads w [] (subsT x.subs) (.slice a x.subs.length c)→Reads w [] (subsT y.subs) (.slice b y.subs.length d)→nodesN x≤4000000 →
  Calls Tryz.prog 288 #[exV x a c,exV y b d] w fun e w' => e = .returned (.bool (sameX x y))∧Bw w w') (fun x ih => ?_) x
 intro y a b c d w hx hy hN;have HIH:=lH ih;have HX:=lH hx;have HY:=lH hy;have hns:nodesN x = 1 + nodesL x.subs:=nodesN_eq x;have hnl:=nodesL_len x.subs;clear ih hx hy;have HE:Hid (sameX x y = (headB x y && sameL x.subs y.subs)):=sameX_eq x y;have HAL:=lH (fun w => alike_any x y a b c d w);have HAQ:=lH (alikeB_eq x y);have HB1:Hid (CBox ((w.alloc (.cells (xA x a c) 66)).alloc (.cells (xA y b d) 66)) w.heap.size 66 (xA x a c)):=(CBox.new w 66 (xA x a c)).alloc _
 have HB2:Hid (CBox ((w.alloc (.cells (xA x a c) 66)).alloc (.cells (xA y b d) 66)) (w.heap.size + 1) 66 (xA y b d)):=by
  have:=CBox.new (w.alloc (.cells (xA x a c) 66)) 66 (xA y b d);rwa [World.size_alloc] at this
 have hA:Bw w ((w.alloc (.cells (xA x a c) 66)).alloc (.cells (xA y b d) 66)):=qtrans (qalloc _ _) (qalloc _ _);generalize sameX x y = T at *;unfold exV at *
 have hcase:headB x y = false∨(headB x y = true∧x.subs.length≠y.subs.length)∨(headB x y = true∧x.subs.length = y.subs.length):=by
  cases headB x y
  ·exact .inl rfl
  ·by_cases h:x.subs.length = y.subs.length
   ·exact .inr (.inr ⟨rfl,h⟩)
   ·exact .inr (.inl ⟨rfl,h⟩)
 generalize alikeB x y = q at *
 go_enter Tryz.func288,Tryz.ntmps288
 go_upto_region 1 with (fail)
 generalize hW:((w.alloc (.cells (xA x a c) 66)).alloc (.cells (xA y b d) 66)) = W0 at *;clear hW;obtain ⟨x0,x1,x2,x3,x4,x5,-⟩:=cells6 HB1.out;obtain ⟨y0,y1,y2,y3,y4,y5,-⟩:=cells6 HB2.out;have l1:=HB1.out.lt;have l2:=HB2.out.lt;go_wp2_with (fail)
 refine (HAL.out _).mono ?_;rintro e wc ⟨rfl,hbc⟩;clear x0 x1 x2 x3 x4 x5 y0 y1 y2 y3 y4 y5 l1 l2;have HB1:=lH (HB1.out.below hbc);have HB2:=lH (HB2.out.below hbc);have hA:=qtrans hA hbc;clear hbc HAL;have HAQ:q = (headB x y && decide (x.subs.length = y.subs.length)):=HAQ.out
 rcases hcase with h | ⟨h,hl⟩ | ⟨h,hl⟩
 ·rw [h,Bool.false_and] at HE
  rw [h,Bool.false_and] at HAQ;rw [HAQ];clear HAQ h;go_wp2;go_ret;exact ⟨ret_bool HE.out.symm,hA⟩
 ·rw [h,Bool.true_and,sameL_len hl] at HE
  rw [h,Bool.true_and,decide_eq_false hl] at HAQ;rw [HAQ];clear HAQ h;go_wp2;go_ret;exact ⟨ret_bool HE.out.symm,hA⟩
 ·rw [h,Bool.true_and] at HE
  rw [h,Bool.true_and,decide_eq_true hl] at HAQ;rw [HAQ];clear HAQ h;have HLE:=lH hl;unfold xA at HB2;rw [← hl] at HY HB2;have x5:=HB1.out.cell (i:=5) (v:=.slice a x.subs.length c) rfl;have l1:=HB1.out.lt;clear hl;have HE0:Hid (T = sameL (x.subs.drop 0) (y.subs.drop 0)):=HE;go_wp2;clear x5 l1
  go_loopw [13] (fun iv wr => ∃ i:Nat,i≤x.subs.length∧iv = .int .i64 i∧Hid (T = sameL (x.subs.drop i) (y.subs.drop i))∧Bw wc wr) (fun iv _ => x.subs.length - (intOf iv).toNat)
  case atStart => exact ⟨0,Nat.zero_le _,rfl,HE0,qrefl _⟩
  case round =>
   obtain ⟨i,hil,rfl,HI,hb⟩:=hrel;have bx:=HB1.out.below hb;have bY:=HB2.out.below hb;have x5:=bx.cell (i:=5) (v:=.slice a x.subs.length c) rfl;have y5:=bY.cell (i:=5) (v:=.slice b x.subs.length d) rfl;have l1:=bx.lt;have l2:=bY.lt;have hB:=qtrans hA hb
   by_cases hi:i < x.subs.length
   ·have hd:decide ((i:Int) < (x.subs.length:Int)) = true:=decide_eq_true (by omega)
    have hir:(i:Int) < (x.subs.length:Int):=by omega
    obtain ⟨u,hu⟩:∃ u,x.subs[i]? = some u:=⟨_,List.getElem?_eq_getElem hi⟩;obtain ⟨v,hv⟩:∃ v,y.subs[i]? = some v:=⟨_,List.getElem?_eq_getElem (by rw [← HLE.out];exact hi)⟩;have hY3:Reads wr [] (subsT y.subs) (.slice b y.subs.length d):=by rw [← HLE.out];exact HY.out.below hB
    obtain ⟨b1,o1,ua,uc,rfl,hb1,u0,u1,u2,u3,u4,u5,-,-,hur⟩:=subs_elem (HX.out.below hB) hu;obtain ⟨b2,o2,va,vc,rfl,hb2,v0,v1,v2,v3,v4,v5,-,-,hvr⟩:=subs_elem hY3 hv;have hum:=List.mem_of_getElem? hu;have hun:=nodesN_sub hum;have HC:=lH (fun w' (h':Bw wr w') => HIH.out u hum v ua va uc vc w' (hur.out.below h') (hvr.out.below h') (by omega));have HN:=lH (HI.out.trans (sameL_at hu hv));clear hY3 HI hun hum hur hvr;generalize sameX u v = r at *;go_upto_region 6 with (fail)
    go_cut [27] from 16 to 27 (fun v wx => v = .bool (!r)∧Bw wr wx)
    case first =>
     refine wp_region_noPanic (region_lexT (fun W:World => W.cell? ⟨w.heap.size,5,none⟩ = some (.slice (some ⟨b1,o1,none⟩) x.subs.length c)∧W.cell? ⟨w.heap.size + 1,5,none⟩ = some (.slice (some ⟨b2,o2,none⟩) x.subs.length d)∧b1 < W.heap.size∧b2 < W.heap.size∧w.heap.size < W.heap.size∧w.heap.size + 1 < W.heap.size∧W.cell? ⟨b1,o1 + i * 6,none⟩ = some (.int .i64 u.kind)∧W.cell? ⟨b1,o1 + i * 6 + 1,none⟩ = some (.string u.name)∧W.cell? ⟨b1,o1 + i * 6 + 2,none⟩ = some (.string u.more)∧W.cell? ⟨b1,o1 + i * 6 + 3,none⟩ = some (.int .i64 u.num)∧W.cell? ⟨b1,o1 + i * 6 + 4,none⟩ = some (.int .i64 u.den)∧W.cell? ⟨b1,o1 + i * 6 + 5,none⟩ = some (.slice ua u.subs.length uc)∧W.cell? ⟨b2,o2 + i * 6,none⟩ = some (.int .i64 v.kind)∧W.cell? ⟨b2,o2 + i * 6 + 1,none⟩ = some (.string v.name)∧W.cell? ⟨b2,o2 + i * 6 + 2,none⟩ = some (.string v.more)∧W.cell? ⟨b2,o2 + i * 6 + 3,none⟩ = some (.int .i64 v.num)∧W.cell? ⟨b2,o2 + i * 6 + 4,none⟩ = some (.int .i64 v.den)∧W.cell? ⟨b2,o2 + i * 6 + 5,none⟩ = some (.slice va v.subs.length vc)) [true,true,true,true,true,true,true,true,true,true] mixedK (by kernel_rfl) (fun _ _ _ _ _ h => h) ⟨x5,y5,hb1,hb2,l1,l2,u0,u1,u2,u3,u4,u5,v0,v1,v2,v3,v4,v5⟩ (fun hHeld => ?_))
     iterate 10 (first | (refine lexT_skip (by rfl) ?_;(try simp only [Act.put,List.setIfInBounds_toArray,List.set_cons_zero,List.set_cons_succ])) | (refine lexT_take (v:=?_) (by rfl) ?_ ?_;rotate_left;(focus (intro wq hSw;(try dsimp only at hSw);go_simp;(try with_reducible rfl)));(try simp only [Act.put,List.setIfInBounds_toArray,List.set_cons_zero,List.set_cons_succ])))
     refine lexT_end ?_;have hdr:Bw wr wr.drew:=(Mod.refl [] wr).drew.below;clear hHeld x5 y5 u0 u1 u2 u3 u4 u5 v0 v1 v2 v3 v4 v5 l1 l2;generalize wr.drew = wd at *;go_wp2_with (fail)
     refine (HC.out _ hdr).mono ?_;rintro e w3 ⟨rfl,hb3⟩;go_wp2;refine NoPanic.normal ?_;go_wp2;go_meet
     case rel => exact ⟨rfl,qtrans hdr hb3⟩
    case rest =>
    obtain ⟨rfl,hb4⟩:=hcut;have hB4:=hb.trans (hb4.mono hb.size)
    cases r with
    | true =>
     rw [Bool.true_and] at HN;simp only [Bool.not_true]
     go_wp2;go_roundw
     case rel => exact ⟨i + 1,by omega,by go_num,HN,hB4⟩
     case measure => simp [intOf];omega
    | false =>
     rw [Bool.false_and] at HN;simp only [Bool.not_false]
     go_wp2;go_ret;exact ⟨ret_bool HN.out.symm,qtrans hA hB4⟩
   ·have hd:decide ((i:Int) < (x.subs.length:Int)) = false:=decide_eq_false (by omega)
    have HF:Hid (T = true):=by show _ = _;rw [HI.out,sameL_end (by omega) (by rw [← HLE.out];omega)]
    go_wp2;go_ret;exact ⟨ret_bool HF.out.symm,hB⟩
end Go.Proofs.YtdpnfkjafhbndaaGreatDoor

