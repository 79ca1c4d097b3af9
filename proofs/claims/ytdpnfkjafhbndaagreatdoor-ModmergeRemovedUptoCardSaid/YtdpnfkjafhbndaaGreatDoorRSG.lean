/- modmerge.isName. modmerge.settleDecl. -/
import Derived.Test.YtdpnfkjafhbndaaGreatDoorRSA
import Derived.Test.YtdpnfkjafhbndaaGreatDoorRXG
import Derived.Test.YtdpnfkjafhbndaaGreatDoorRSI
import Derived.Test.YtdpnfkjafhbndaaGreatDoorRXO
import Derived.Lib.ItoaLen
import Derived.Lib.AppendIntMem
namespace Go.Proofs.YtdpnfkjafhbndaaGreatDoor
open Go.RowKit Go.Shelf
attribute [local go_sem] Oper.semAt_some
set_option maxRecDepth 100000 in
set_option maxHeartbeats 4000000 in
theorem misName_any (s:ByteArray) (hs:s.size≤40000) (w:World):Calls Tryz.prog 135 #[.string s] w fun e w' => e = .returned (.bool (nmS s))∧Bw w w':=by
 have hsm:=varX_sm s hs;have HC:=lH (fun W => CheckExpr_any (varX s) none 0 W (Reads.nilRow W [] 6 exprT) (Nat.le_refl _) (Nat.zero_le _) hsm (by rw [varX,nodesN,nodesL];omega));rw [varX_err] at HC;clear hsm;unfold exV varX at HC
 cases h:nmS s with
 | true =>
  rw [h,if_pos rfl] at HC
  go_enter Tryz.func135,Tryz.ntmps135
  go_wp2_with (fail)
  refine (HC.out w).mono ?_;rintro e w1 ⟨rfl,hb1⟩;go_wp2;go_returns;exact ⟨rfl,hb1⟩
 | false =>
  rw [h,if_neg (by decide)] at HC
  go_enter Tryz.func135,Tryz.ntmps135
  go_wp2_with (fail)
  refine (HC.out w).mono ?_;rintro e w1 ⟨rfl,hb1⟩;go_wp2;go_returns;exact ⟨rfl,hb1⟩
structure SettledD (d:ODecl) (s:OSpot) (side:Int) (X:List Nat) (w:World) (e:Ending) (w':World):Prop where
  of ::
  out:∃ (D:ODecl) (an:Option Addr) (cn:Nat) (sa:Option Addr) (cs:Nat) (b:Bool),e = .returned (.tuple #[declV D an cn sa cs,.bool b,.int .i64 (settleD d s side).2.2])∧Below w.heap.size w w' ∧
    ((settleD d s side).2.2 = 0→b = (settleD d s side).2.1∧(b = true→D = (settleD d s side).1∧DecX w' X D an cn sa cs))
theorem strs_lone {w:World} {B:Nat} {X:List Nat} {ss:List ByteArray} (hX:B ∉ X) (h:CBox w B 9 (ss.map Value.string).toArray) (hn:ss.length≤1000000):Reads w X (strsT ss) (.slice (some ⟨B,0,none⟩) ss.length ss.length):=by
 refine reads_strs.2 ⟨⟨by simp,some ⟨B,0,none⟩,ss.length,rfl,Nat.le_refl _,by unfold maxLen;omega,fun _ => ⟨B,0,rfl,h.lt,fun j v hj => ?_⟩⟩,fun _ k hk hx => ?_⟩
 ·rw [Nat.zero_add]
  exact h.cell (by rw [← Array.getElem?_toList];exact hj)
 ·simp [Value.ownBlock] at hk
  subst hk;exact hX hx
theorem CBox.body {w:World} {B:Nat} {t:TypeId} {a0 a1 a2 a3 a4 a5 a6 a7 a8 a9 a10:Value} (h:CBox w B t #[a0,a1,a2,a3,a4,a5,a6,a7,a8,a9,a10]) (v5 v6 v7 v8 v9 v10:Value) :
  CBox ((((((w.setCell ⟨B,5,none⟩ v5).setCell ⟨B,6,none⟩ v6).setCell ⟨B,7,none⟩ v7).setCell ⟨B,8,none⟩ v8).setCell ⟨B,9,none⟩ v9).setCell ⟨B,10,none⟩ v10) B t #[a0,a1,a2,a3,a4,v5,v6,v7,v8,v9,v10]∧Mod [B] w ((((((w.setCell ⟨B,5,none⟩ v5).setCell ⟨B,6,none⟩ v6).setCell ⟨B,7,none⟩ v7).setCell ⟨B,8,none⟩ v8).setCell ⟨B,9,none⟩ v9).setCell ⟨B,10,none⟩ v10):=by
 have hB:∀ o:Nat,(⟨B,o,none⟩:Addr).block∈[B]:=fun _ => List.mem_singleton.2 rfl;have h5:CBox _ B t #[a0,a1,a2,a3,a4,v5,a6,a7,a8,a9,a10]:=h.set 5 v5;have h6:CBox _ B t #[a0,a1,a2,a3,a4,v5,v6,a7,a8,a9,a10]:=h5.set 6 v6;have h7:CBox _ B t #[a0,a1,a2,a3,a4,v5,v6,v7,a8,a9,a10]:=h6.set 7 v7;have h8:CBox _ B t #[a0,a1,a2,a3,a4,v5,v6,v7,v8,a9,a10]:=h7.set 8 v8;have h9:CBox _ B t #[a0,a1,a2,a3,a4,v5,v6,v7,v8,v9,a10]:=h8.set 9 v9
 exact ⟨h9.set 10 v10,((((((Mod.refl [B] w).setCell (hB 5) v5).setCell (hB 6) v6).setCell (hB 7) v7).setCell (hB 8) v8).setCell (hB 9) v9).setCell (hB 10) v10⟩
theorem nmS_size {s:ByteArray} (h:nmS s = true):s.size≤24:=by
 unfold nmS wordS wordN at h;simp only [Bool.and_eq_true,decide_eq_true_eq] at h
 have:=h.1.1.2;rwa [Array.length_toList] at this
theorem itoaB_size {n:Int} (h0:-9223372036854775808≤n) (h1:n≤9223372036854775807):(itoaB n).size≤21:=by
 have:=Lib.itoa_length_le n h0 h1;show (Lib.itoa n).toArray.size≤21
 rwa [List.size_toArray]
theorem tab_below {w w':World} {n:String} {k:IntKind} {zs:List Int} {g:Nat} (h:Lib.TabIs Tryz.prog w n k zs) (hg:Tryz.prog.globalNamed n = some g) (m:Bw w w'):Lib.TabIs Tryz.prog w' n k zs:=by
 unfold Lib.TabIs World.var? at *;rw [hg] at h ⊢;simp only [Option.bind_some] at h ⊢
 cases hh:w.heap[g]? with
 | none => rw [hh] at h;cases h
 | some ob =>
  rw [hh] at h;rw [(m.block g (Array.getElem?_eq_some_iff.1 hh).1).trans hh];exact h
set_option maxRecDepth 100000 in
set_option maxHeartbeats 16000000 in
theorem settleDecl_any (d:ODecl) (s:OSpot) (k:Nat) (an:Option Addr) (cn:Nat) (sa:Option Addr) (cs:Nat) (X:List Nat) (w:World) (hX:∀ k,k∈X→k < w.heap.size) (hd:DecX w X d an cn sa cs) (sd:SmD d) (hN:nodesN d.body≤1000000) (hi0:-9223372036854775808≤d.id) (hi1:d.id≤9223372036854775807) (h:HasIt d s k) (htab:Lib.TabIs Tryz.prog w "internal/strconv.uint64pow10" .u64 Lib.pow10Tab) :
  Calls Tryz.prog 84 #[declV d an cn sa cs,.agg #[.string s.pack,.int .i64 s.kind,.int .i64 s.id,.int .i64 s.pos],.int .i64 k] w (SettledD d s k X w):=by
 have HXX:=lH hX;have HDI:=lH hd;have HTB:=lH htab;have HIT:=lH h;have HI0:=lH hi0;have HI1:=lH hi1;have HSD:=lH sd;have hk2:k≤2:=by have:=h.hi;omega
 have HNM:=lH (fun (t:ByteArray) (ht:t.size≤40000) W => misName_any t ht W);clear hX hd htab h sd hi0 hi1
 have gd:CBox (((w.alloc (.cells #[.int .i64 d.id,.int .i64 d.kind,.bool d.pub,.slice an d.names.length cn,.bool d.doubt,.int .i64 d.body.kind,.string d.body.name,.string d.body.more,.int .i64 d.body.num,.int .i64 d.body.den,.slice sa d.body.subs.length cs] 69)).alloc (.cells #[.string s.pack,.int .i64 s.kind,.int .i64 s.id,.int .i64 s.pos] 54)).alloc (.cells #[.int .i64 0,.int .i64 0,.bool false,.slice none 0 0,.bool false,.int .i64 0,.string ⟨#[]⟩,.string ⟨#[]⟩,.int .i64 0,.int .i64 0,.slice none 0 0] 69)) w.heap.size 69 #[.int .i64 d.id,.int .i64 d.kind,.bool d.pub,.slice an d.names.length cn,.bool d.doubt,.int .i64 d.body.kind,.string d.body.name,.string d.body.more,.int .i64 d.body.num,.int .i64 d.body.den,.slice sa d.body.subs.length cs]:=((CBox.new w 69 _).alloc _).alloc _
 have gs:=(CBox.new (w.alloc (.cells #[.int .i64 d.id,.int .i64 d.kind,.bool d.pub,.slice an d.names.length cn,.bool d.doubt,.int .i64 d.body.kind,.string d.body.name,.string d.body.more,.int .i64 d.body.num,.int .i64 d.body.den,.slice sa d.body.subs.length cs] 69)) 54 #[.string s.pack,.int .i64 s.kind,.int .i64 s.id,.int .i64 s.pos]).alloc (.cells #[.int .i64 0,.int .i64 0,.bool false,.slice none 0 0,.bool false,.int .i64 0,.string ⟨#[]⟩,.string ⟨#[]⟩,.int .i64 0,.int .i64 0,.slice none 0 0] 69)
 have go:=CBox.new ((w.alloc (.cells #[.int .i64 d.id,.int .i64 d.kind,.bool d.pub,.slice an d.names.length cn,.bool d.doubt,.int .i64 d.body.kind,.string d.body.name,.string d.body.more,.int .i64 d.body.num,.int .i64 d.body.den,.slice sa d.body.subs.length cs] 69)).alloc (.cells #[.string s.pack,.int .i64 s.kind,.int .i64 s.id,.int .i64 s.pos] 54)) 69 #[.int .i64 0,.int .i64 0,.bool false,.slice none 0 0,.bool false,.int .i64 0,.string ⟨#[]⟩,.string ⟨#[]⟩,.int .i64 0,.int .i64 0,.slice none 0 0];rw [World.size_alloc] at gs
 rw [World.size_alloc,World.size_alloc] at go
 have hA:Bw w (((w.alloc (.cells #[.int .i64 d.id,.int .i64 d.kind,.bool d.pub,.slice an d.names.length cn,.bool d.doubt,.int .i64 d.body.kind,.string d.body.name,.string d.body.more,.int .i64 d.body.num,.int .i64 d.body.den,.slice sa d.body.subs.length cs] 69)).alloc (.cells #[.string s.pack,.int .i64 s.kind,.int .i64 s.id,.int .i64 s.pos] 54)).alloc (.cells #[.int .i64 0,.int .i64 0,.bool false,.slice none 0 0,.bool false,.int .i64 0,.string ⟨#[]⟩,.string ⟨#[]⟩,.int .i64 0,.int .i64 0,.slice none 0 0] 69)):=qtrans (qtrans (qalloc _ _) (qalloc _ _)) (qalloc _ _)
 have hs4:((((w.alloc (.cells #[.int .i64 d.id,.int .i64 d.kind,.bool d.pub,.slice an d.names.length cn,.bool d.doubt,.int .i64 d.body.kind,.string d.body.name,.string d.body.more,.int .i64 d.body.num,.int .i64 d.body.den,.slice sa d.body.subs.length cs] 69)).alloc (.cells #[.string s.pack,.int .i64 s.kind,.int .i64 s.id,.int .i64 s.pos] 54)).alloc (.cells #[.int .i64 0,.int .i64 0,.bool false,.slice none 0 0,.bool false,.int .i64 0,.string ⟨#[]⟩,.string ⟨#[]⟩,.int .i64 0,.int .i64 0,.slice none 0 0] 69))).heap.size = w.heap.size + 1 + 1 + 1:=by simp only [World.size_alloc]
 unfold declV
 go_enter Tryz.func84,Tryz.ntmps84
 go_upto_region 1 with (fail)
 generalize (((w.alloc (.cells #[.int .i64 d.id,.int .i64 d.kind,.bool d.pub,.slice an d.names.length cn,.bool d.doubt,.int .i64 d.body.kind,.string d.body.name,.string d.body.more,.int .i64 d.body.num,.int .i64 d.body.den,.slice sa d.body.subs.length cs] 69)).alloc (.cells #[.string s.pack,.int .i64 s.kind,.int .i64 s.id,.int .i64 s.pos] 54)).alloc (.cells #[.int .i64 0,.int .i64 0,.bool false,.slice none 0 0,.bool false,.int .i64 0,.string ⟨#[]⟩,.string ⟨#[]⟩,.int .i64 0,.int .i64 0,.slice none 0 0] 69)) = W0 at *;generalize hn2:w.heap.size + 1 = n2 at *
 generalize hn3:n2 + 1 = n3 at *;have m1:w.heap.size < n2:=by omega
 have m2:n2 < n3:=by omega
 have hsW:n3 < W0.heap.size:=by omega
 clear hn2 hn3 hs4;have HDX:Hid (∀ W,Bw W0 W→DecX W (n3 :: n2 :: w.heap.size :: X) d an cn sa cs):=fun W hW => ((((HDI.out.more (k:=w.heap.size) (Nat.le_refl _)).more (k:=n2) (by omega)).more (k:=n3) (by omega)).below hA).below hW;have Gd:=lH gd;have Gs:=lH gs;have Go:=lH go;clear gd gs go;obtain ⟨d0,d1,d2,d3,d4,d5,d6,d7,d8,d9,d10,dl⟩:=cells11 Gd.out;obtain ⟨fd0,fd1,fd2,fd3,fd4,fd5,fd6,fd7,fd8,fd9,fd10⟩:=frozen11 Gd.out;obtain ⟨s0,s1,s2,s3,sl⟩:=cells4 Gs.out
 rcases HIT.out.kind with hk | hk | hk | hk
 ·have hk1:(s.kind == 1) = true:=by rw [hk];rfl
  have h3:=HIT.out.three hk;obtain ⟨nm,hnm⟩:∃ nm,d.names[k]? = some nm:=⟨_,List.getElem?_eq_getElem (by omega)⟩
  have HSD2:Hid (settleD d s k = ({ d with names:=[nm] },true,if nmS nm then 0 else 6)):=by
   show _ = _
   unfold settleD;rw [if_pos hk,Int.toNat_natCast,hnm];rfl
  have hns:=(HSD.out.names nm (List.mem_of_getElem? hnm));have hr0:=(HDX.out W0 (qrefl _)).names;obtain ⟨b1,o1,rfl,hb1,c1⟩:=strs_at (reads_strs.1 hr0).1 hnm;have hkn:decide ((k:Int) < (d.names.length:Int)) = true:=decide_eq_true (by omega);have hki:(k:Int) < (d.names.length:Int):=by omega
  have hal:=qalloc W0 (.cells #[.string nm] 9);have HNB:=lH (CBox.new W0 9 #[.string nm]);clear hk hnm h3 hr0;go_upto_region 16 with (fail)
  have hsz:(W0.setCell ⟨w.heap.size,3,none⟩ (.slice (some ⟨W0.heap.size,0,none⟩) 1 1)).heap.size = W0.heap.size:=World.size_setCell _ _ _;have HM1:Mod [w.heap.size] W0 (W0.setCell ⟨w.heap.size,3,none⟩ (.slice (some ⟨W0.heap.size,0,none⟩) 1 1)):=(Mod.refl [w.heap.size] W0).setCell (p:=⟨w.heap.size,3,none⟩) (by simp) _;have HG1:=Gd.out.set 3 (.slice (some ⟨W0.heap.size,0,none⟩) 1 1);have HN1:=CBox.new (W0.setCell ⟨w.heap.size,3,none⟩ (.slice (some ⟨W0.heap.size,0,none⟩) 1 1)) 9 #[.string nm]
  have HQ1:=qalloc (W0.setCell ⟨w.heap.size,3,none⟩ (.slice (some ⟨W0.heap.size,0,none⟩) 1 1)) (.cells #[.string nm] 9);rw [hsz] at HN1;have HB1:Bw w (W0.setCell ⟨w.heap.size,3,none⟩ (.slice (some ⟨W0.heap.size,0,none⟩) 1 1)):=(hA).trans (HM1.upto (hA).size (by intro k hk;simp at hk;omega));have HG2:=lH (HG1.alloc (.cells #[.string nm] 9));have HO2:=lH ((Go.out.mod HM1 (by simp;omega)).alloc (.cells #[.string nm] 9));have HB2:=lH (qtrans HB1 HQ1)
  have HS2:Hid (Reads _ (n3 :: X) (subsT d.body.subs) (.slice sa d.body.subs.length cs)):=((((HDX.out W0 (qrefl _)).fewer (Y:=w.heap.size :: n3 :: X) (by intro k hk;simp at hk ⊢;rcases hk with h | h | h <;> simp [h])).mod (HM1.mono (by intro k hk;rw [List.mem_singleton.1 hk];exact List.mem_cons_self ..))).subs.below HQ1).fewer inT;have hcs:=HDX.out W0 (qrefl _);have HCS:Hid (d.body.subs.length≤cs∧cs≤9223372036854775807):=⟨hcs.hs1,hcs.hs2⟩
  have HNX:Hid (W0.heap.size ∉ n3 :: X):=fun h => by
   rcases List.mem_cons.1 h with h | h
   ·omega
   ·have:=HXX.out _ h;omega
  have HN2:=lH HN1;generalize ((W0.setCell ⟨w.heap.size,3,none⟩ (.slice (some ⟨W0.heap.size,0,none⟩) 1 1)).alloc (.cells #[.string nm] 9)) = w2 at *;clear HN1 HQ1 HM1 HG1 HB1 hsz hcs c1 hal HNB hk1 hkn hki hb1 d0 d1 d2 d3 d4 d5 d6 d7 d8 d9 d10 fd0 fd1 fd2 fd3 fd4 fd5 fd6 fd7 fd8 fd9 fd10 dl s0 s1 s2 s3 sl;generalize W0.heap.size = N at *;have HD2:Hid (DecX w2 (n3 :: X) { d with names:=[nm] } (some ⟨N,0,none⟩) 1 sa cs):=⟨strs_lone HNX.out HN2.out (by simp),HS2.out,Nat.le_refl _,by decide,HCS.out.1,HCS.out.2⟩
  obtain ⟨g0,g1,g2,g3,g4,g5,g6,g7,g8,g9,g10,gl⟩:=cells11 HG2.out;have n0:=HN2.out.cell (i:=0) (v:=.string nm) rfl;have nl:=HN2.out.lt;go_wp2_with (fail)
  refine (HNM.out nm hns w2).mono ?_;rintro e w3 ⟨rfl,hb3⟩;clear g0 g1 g2 g3 g4 g5 g6 g7 g8 g9 g10 gl n0 nl;have hw3:Bw w w3:=qtrans HB2.out (hb3.mono (Nat.le_refl _));have HO3:=lH (HO2.out.below hb3);have HG3:=lH (HG2.out.below hb3);have HD3:=lH (HD2.out.below hb3);clear HO2 HG2 HD2 HN2 HS2 HB2 hb3
  cases hq:nmS nm with
  | true =>
   obtain ⟨g0,g1,g2,g3,g4,g5,g6,g7,g8,g9,g10,gl⟩:=cells11 HG3.out;obtain ⟨o0,o1,o2,o3,o4,o5,o6,o7,o8,o9,o10,ol⟩:=cells11 HO3.out;obtain ⟨fo0,fo1,fo2,fo3,fo4,fo5,fo6,fo7,fo8,fo9,fo10⟩:=frozen11 HO3.out;go_wp2;clear g0 g1 g2 g3 g4 g5 g6 g7 g8 g9 g10 gl o0 o1 o2 o3 o4 o5 o6 o7 o8 o9 o10 fo0 fo1 fo2 fo3 fo4 fo5 fo6 fo7 fo8 fo9 fo10 ol
   obtain ⟨HC9,HM9⟩:=CBox.eleven (HO3.out) (.int .i64 d.id) (.int .i64 d.kind) (.bool d.pub) (.slice (some ⟨N,0,none⟩) 1 1) (.bool d.doubt) (.int .i64 d.body.kind) (.string d.body.name) (.string d.body.more) (.int .i64 d.body.num) (.int .i64 d.body.den) (.slice sa d.body.subs.length cs);generalize World.setCell _ ⟨n3,10,none⟩ _ = W9 at *;obtain ⟨r0,r1,r2,r3,r4,r5,r6,r7,r8,r9,r10,-⟩:=cells11 HC9;refine bodyPost_ret (by simp [results,Tryz.results84,go_sem,r0,r1,r2,r3,r4,r5,r6,r7,r8,r9,r10];try rfl) rfl ?_
   have hd9:Bw w W9:=hw3.trans (HM9.upto hw3.size (by intro k hk;simp at hk;omega))
   have e0:settleD d s k = ({ d with names:=[nm] },true,0):=by rw [HSD2.out,hq];rfl
   exact ⟨{ d with names:=[nm] },some ⟨N,0,none⟩,1,sa,cs,true,by rw [e0];rfl,hd9,fun _ => by rw [e0];exact ⟨rfl,fun _ => ⟨rfl,(HD3.out.mod (HM9.mono inC)).fewer inT⟩⟩⟩
  | false =>
   obtain ⟨o0,o1,o2,o3,o4,o5,o6,o7,o8,o9,o10,ol⟩:=cells11 HO3.out;obtain ⟨fo0,fo1,fo2,fo3,fo4,fo5,fo6,fo7,fo8,fo9,fo10⟩:=frozen11 HO3.out;go_wp2;clear o0 o1 o2 o3 o4 o5 o6 o7 o8 o9 o10 fo0 fo1 fo2 fo3 fo4 fo5 fo6 fo7 fo8 fo9 fo10 ol;obtain ⟨HC9,HM9⟩:=CBox.putZ (HO3.out);generalize World.setCell _ ⟨n3,10,none⟩ _ = W9 at *;obtain ⟨r0,r1,r2,r3,r4,r5,r6,r7,r8,r9,r10,-⟩:=cells11 HC9;refine bodyPost_ret (by simp [results,Tryz.results84,go_sem,r0,r1,r2,r3,r4,r5,r6,r7,r8,r9,r10];try rfl) rfl ?_
   have hd9:Bw w W9:=hw3.trans (HM9.upto hw3.size (by intro k hk;simp at hk;omega))
   have e0:settleD d s k = ({ d with names:=[nm] },true,6):=by rw [HSD2.out,hq];rfl
   exact ⟨noDecl,none,0,none,0,false,by rw [e0];rfl,hd9,fun h => by rw [e0] at h;cases h⟩
 ·have hk1:(s.kind == 1) = false:=by rw [hk];rfl
  have hk2':(s.kind == 2) = true:=by rw [hk];rfl
  have HSD2:Hid (settleD d s k = ({ d with body:=setOut d.body s.pos k },true,setErr d.body s.pos k)):=by
   show _ = _
   unfold settleD;rw [if_neg (by rw [hk];decide),if_pos hk]
  have hXS:∀ k',k'∈n3 :: n2 :: w.heap.size :: X→k' < W0.heap.size:=by
   intro k' hk'
   rcases List.mem_cons.1 hk' with rfl | hk'
   ·exact hsW
   ·rcases List.mem_cons.1 hk' with rfl | hk'
    ·omega
    ·rcases List.mem_cons.1 hk' with rfl | hk'
     ·omega
     ·have:=HXX.out _ hk';omega
  have HXS:=lH (xSettle_any d.body s.pos k sa cs (n3 :: n2 :: w.heap.size :: X) W0 hXS (HDX.out W0 (qrefl _)).body HSD.out.body hN);have hcn:=HDX.out W0 (qrefl _);have HCN:Hid (d.names.length≤cn∧cn≤9223372036854775807):=⟨hcn.hn1,hcn.hn2⟩;clear hk hXS hcn;unfold exV at HXS;go_wp2_with (fail)
  refine HXS.out.mono ?_;rintro e w3 ⟨za,zc,rfl,hzx,hb3⟩;unfold exV;generalize setOut d.body s.pos k = z at *;generalize setErr d.body s.pos k = q at *;have HG3:=lH (Gd.out.below hb3);have HO3:=lH (Go.out.below hb3);have HZ3:=lH hzx;have hw3:Bw w w3:=qtrans hA hb3;have HW3:=lH hw3;have HB3:=lH hb3;clear d0 d1 d2 d3 d4 d5 d6 d7 d8 d9 d10 fd0 fd1 fd2 fd3 fd4 fd5 fd6 fd7 fd8 fd9 fd10 dl s0 s1 s2 s3 sl hk1 hk2' HXS hzx hw3 hb3;go_upto_region 12 with (fail)
  have HA4:=qalloc w3 (.cells #[.int .i64 z.kind,.string z.name,.string z.more,.int .i64 z.num,.int .i64 z.den,.slice za z.subs.length zc] 66);have HE4:=lH (CBox.new w3 66 #[.int .i64 z.kind,.string z.name,.string z.more,.int .i64 z.num,.int .i64 z.den,.slice za z.subs.length zc]);have HG4:=lH (HG3.out.alloc (.cells #[.int .i64 z.kind,.string z.name,.string z.more,.int .i64 z.num,.int .i64 z.den,.slice za z.subs.length zc] 66))
  have HO4:=lH (HO3.out.alloc (.cells #[.int .i64 z.kind,.string z.name,.string z.more,.int .i64 z.num,.int .i64 z.den,.slice za z.subs.length zc] 66));have HZ4:=lH (HZ3.out.below HA4);have HW4:=lH (qtrans HW3.out HA4);have HDD:Hid (∀ W,Bw W0 W→DecX W (n3 :: n2 :: w.heap.size :: X) d an cn sa cs):=HDX;have HB4:=lH (qtrans HB3.out HA4);have HN4:Hid (n3 < w3.heap.size):=by show n3 < _;have:=HB3.out.size;omega
  generalize World.alloc w3 _ = w4 at *;generalize w3.heap.size = E at *;clear HA4 HG3 HO3 HZ3 HW3 HB3 HDX
  by_cases hq0:q = 0
  case neg =>
   have hq3:(q != 0) = true:=by simpa using hq0
   obtain ⟨o0,o1,o2,o3,o4,o5,o6,o7,o8,o9,o10,ol⟩:=cells11 HO4.out;obtain ⟨fo0,fo1,fo2,fo3,fo4,fo5,fo6,fo7,fo8,fo9,fo10⟩:=frozen11 HO4.out;go_wp2;clear o0 o1 o2 o3 o4 o5 o6 o7 o8 o9 o10 fo0 fo1 fo2 fo3 fo4 fo5 fo6 fo7 fo8 fo9 fo10 ol;obtain ⟨HC9,HM9⟩:=CBox.putZ (HO4.out);generalize World.setCell _ ⟨n3,10,none⟩ _ = W9 at *;obtain ⟨r0,r1,r2,r3,r4,r5,r6,r7,r8,r9,r10,-⟩:=cells11 HC9;refine bodyPost_ret (by simp [results,Tryz.results84,go_sem,r0,r1,r2,r3,r4,r5,r6,r7,r8,r9,r10];try rfl) rfl ?_
   have hd9:Bw w W9:=HW4.out.trans (HM9.upto HW4.out.size (by intro k hk;simp at hk;omega));exact ⟨noDecl,none,0,none,0,false,by rw [HSD2.out];rfl,hd9,fun h => by rw [HSD2.out] at h;exact absurd h hq0⟩
  case pos =>
   have hq3:(q != 0) = false:=by simpa using hq0
   obtain ⟨e0,e1,e2,e3,e4,e5,el⟩:=cells6 HE4.out;obtain ⟨g0,g1,g2,g3,g4,g5,g6,g7,g8,g9,g10,gl⟩:=cells11 HG4.out;obtain ⟨fg0,fg1,fg2,fg3,fg4,fg5,fg6,fg7,fg8,fg9,fg10⟩:=frozen11 HG4.out;go_upto_region 15 with (fail)
   clear e0 e1 e2 e3 e4 e5 el g0 g1 g2 g3 g4 g5 g6 g7 g8 g9 g10 fg0 fg1 fg2 fg3 fg4 fg5 fg6 fg7 fg8 fg9 fg10 gl;obtain ⟨HC5,HM5⟩:=CBox.body HG4.out (.int .i64 z.kind) (.string z.name) (.string z.more) (.int .i64 z.num) (.int .i64 z.den) (.slice za z.subs.length zc);generalize World.setCell _ ⟨w.heap.size,10,none⟩ _ = w5 at *;have HG5:=lH HC5;have HO5:=lH (HO4.out.mod HM5 (by simp;omega));have HW5:=lH (HW4.out.trans (HM5.upto HW4.out.size (by intro k hk;simp at hk;omega)))
   have HMX:Hid (Mod (n3 :: n2 :: w.heap.size :: X) w4 w5):=HM5.mono (fun k hk => by rw [List.mem_singleton.1 hk];exact List.mem_cons_of_mem _ (List.mem_cons_of_mem _ (List.mem_cons_self ..)));have HZ5:=lH (HZ4.out.mod HMX.out);have HD5:=lH ((HDD.out w4 HB4.out).mod HMX.out);clear HC5 HM5 HMX HDD;obtain ⟨g0,g1,g2,g3,g4,g5,g6,g7,g8,g9,g10,gl⟩:=cells11 HG5.out;obtain ⟨o0,o1,o2,o3,o4,o5,o6,o7,o8,o9,o10,ol⟩:=cells11 HO5.out;obtain ⟨fo0,fo1,fo2,fo3,fo4,fo5,fo6,fo7,fo8,fo9,fo10⟩:=frozen11 HO5.out;go_wp2
   clear g0 g1 g2 g3 g4 g5 g6 g7 g8 g9 g10 gl o0 o1 o2 o3 o4 o5 o6 o7 o8 o9 o10 fo0 fo1 fo2 fo3 fo4 fo5 fo6 fo7 fo8 fo9 fo10 ol;obtain ⟨HC9,HM9⟩:=CBox.eleven (HO5.out) (.int .i64 d.id) (.int .i64 d.kind) (.bool d.pub) (.slice an d.names.length cn) (.bool d.doubt) (.int .i64 z.kind) (.string z.name) (.string z.more) (.int .i64 z.num) (.int .i64 z.den) (.slice za z.subs.length zc);generalize World.setCell _ ⟨n3,10,none⟩ _ = W9 at *;obtain ⟨r0,r1,r2,r3,r4,r5,r6,r7,r8,r9,r10,-⟩:=cells11 HC9
   refine bodyPost_ret (by simp [results,Tryz.results84,go_sem,r0,r1,r2,r3,r4,r5,r6,r7,r8,r9,r10];try rfl) rfl ?_;have hd9:Bw w W9:=HW5.out.trans (HM9.upto HW5.out.size (by intro k hk;simp at hk;omega));have hm9:=HM9.mono (Y:=n3 :: n2 :: w.heap.size :: X) inC;have hx9:=HD5.out.mod hm9;have hz9:=HZ5.out.mod hm9
   exact ⟨{ d with body:=z },an,cn,za,zc,true,by rw [HSD2.out,hq0];rfl,hd9,fun _ => by rw [HSD2.out];exact ⟨rfl,fun _ => ⟨rfl,(DecX.fewer (d:={ d with body:=z }) ⟨hx9.names,hz9.subs,hx9.hn1,hx9.hn2,hz9.h1,hz9.h2⟩ (fun k hk => List.mem_cons_of_mem _ (List.mem_cons_of_mem _ (List.mem_cons_of_mem _ hk))))⟩⟩⟩
 ·have hk1:(s.kind == 1) = false:=by rw [hk];rfl
  have hk2':(s.kind == 2) = false:=by rw [hk];rfl
  have hk3:(s.kind == 3) = true:=by rw [hk];rfl
  by_cases hk9:k = 2
  ·have hk22:((k:Int) == 2) = true:=by rw [hk9];rfl
   have HSD2:Hid (settleD d s k = (d,false,0)):=by
    show _ = _
    unfold settleD;rw [if_neg (by rw [hk];decide),if_neg (by rw [hk];decide),if_pos (by rw [hk9];rfl)]
   obtain ⟨o0,o1,o2,o3,o4,o5,o6,o7,o8,o9,o10,ol⟩:=cells11 Go.out;obtain ⟨fo0,fo1,fo2,fo3,fo4,fo5,fo6,fo7,fo8,fo9,fo10⟩:=frozen11 Go.out;go_wp2;clear o0 o1 o2 o3 o4 o5 o6 o7 o8 o9 o10 fo0 fo1 fo2 fo3 fo4 fo5 fo6 fo7 fo8 fo9 fo10 ol d0 d1 d2 d3 d4 d5 d6 d7 d8 d9 d10 fd0 fd1 fd2 fd3 fd4 fd5 fd6 fd7 fd8 fd9 fd10 dl s0 s1 s2 s3 sl;obtain ⟨HC9,HM9⟩:=CBox.putZ (Go.out);generalize World.setCell _ ⟨n3,10,none⟩ _ = W9 at *;obtain ⟨r0,r1,r2,r3,r4,r5,r6,r7,r8,r9,r10,-⟩:=cells11 HC9
   refine bodyPost_ret (by simp [results,Tryz.results84,go_sem,r0,r1,r2,r3,r4,r5,r6,r7,r8,r9,r10];try rfl) rfl ?_;have hd9:Bw w W9:=hA.trans (HM9.upto hA.size (by intro k hk;simp at hk;omega));exact ⟨noDecl,none,0,none,0,false,by rw [HSD2.out];rfl,hd9,fun _ => by rw [HSD2.out];exact ⟨rfl,fun h => by cases h⟩⟩
  ·have hk22:((k:Int) == 2) = false:=by rw [beq_eq_false_iff_ne];omega
   have HSD2:Hid (settleD d s k = ({ d with doubt:=false },true,0)):=by
    show _ = _
    unfold settleD;rw [if_neg (by rw [hk];decide),if_neg (by rw [hk];decide),if_neg (by omega),if_pos hk]
   go_upto_region 6 with (fail)
   have HG1:=Gd.out.set 4 (.bool false);have HM1:Mod [w.heap.size] W0 (W0.setCell ⟨w.heap.size,4,none⟩ (.bool false)):=(Mod.refl [w.heap.size] W0).setCell (p:=⟨w.heap.size,4,none⟩) (by simp) _;have HB1:=lH (hA.trans (HM1.upto hA.size (by intro k hk;simp at hk;omega)));have HO1:=lH (Go.out.mod HM1 (by simp;omega));have HD1:=lH (((HDX.out W0 (qrefl _)).mod (HM1.mono (fun k hk => by rw [List.mem_singleton.1 hk];exact List.mem_cons_of_mem _ (List.mem_cons_of_mem _ (List.mem_cons_self ..))))));have HG2:=lH HG1
   clear d0 d1 d2 d3 d4 d5 d6 d7 d8 d9 d10 fd0 fd1 fd2 fd3 fd4 fd5 fd6 fd7 fd8 fd9 fd10 dl s0 s1 s2 s3 sl HG1 HM1;generalize World.setCell _ ⟨w.heap.size,4,none⟩ _ = w2 at *;obtain ⟨g0,g1,g2,g3,g4,g5,g6,g7,g8,g9,g10,gl⟩:=cells11 HG2.out;obtain ⟨o0,o1,o2,o3,o4,o5,o6,o7,o8,o9,o10,ol⟩:=cells11 HO1.out;obtain ⟨fo0,fo1,fo2,fo3,fo4,fo5,fo6,fo7,fo8,fo9,fo10⟩:=frozen11 HO1.out;go_wp2;clear g0 g1 g2 g3 g4 g5 g6 g7 g8 g9 g10 gl o0 o1 o2 o3 o4 o5 o6 o7 o8 o9 o10 fo0 fo1 fo2 fo3 fo4 fo5 fo6 fo7 fo8 fo9 fo10 ol
   obtain ⟨HC9,HM9⟩:=CBox.eleven (HO1.out) (.int .i64 d.id) (.int .i64 d.kind) (.bool d.pub) (.slice an d.names.length cn) (.bool false) (.int .i64 d.body.kind) (.string d.body.name) (.string d.body.more) (.int .i64 d.body.num) (.int .i64 d.body.den) (.slice sa d.body.subs.length cs);generalize World.setCell _ ⟨n3,10,none⟩ _ = W9 at *;obtain ⟨r0,r1,r2,r3,r4,r5,r6,r7,r8,r9,r10,-⟩:=cells11 HC9;refine bodyPost_ret (by simp [results,Tryz.results84,go_sem,r0,r1,r2,r3,r4,r5,r6,r7,r8,r9,r10];try rfl) rfl ?_
   have hd9:Bw w W9:=HB1.out.trans (HM9.upto HB1.out.size (by intro k hk;simp at hk;omega));have hx9:=HD1.out.mod (HM9.mono inC)
   exact ⟨{ d with doubt:=false },an,cn,sa,cs,true,by rw [HSD2.out];rfl,hd9,fun _ => by rw [HSD2.out];exact ⟨rfl,fun _ => ⟨rfl,(DecX.fewer (d:={ d with doubt:=false }) ⟨hx9.names,hx9.subs,hx9.hn1,hx9.hn2,hx9.hs1,hx9.hs2⟩ (fun k hk => List.mem_cons_of_mem _ (List.mem_cons_of_mem _ (List.mem_cons_of_mem _ hk))))⟩⟩⟩
 ·have hk1:(s.kind == 1) = false:=by rw [hk];rfl
  have hk2':(s.kind == 2) = false:=by rw [hk];rfl
  have hk3:(s.kind == 3) = false:=by rw [hk];rfl
  by_cases hk9:k = 2
  ·have hk22:((k:Int) == 2) = true:=by rw [hk9];rfl
   have HSD2:Hid (settleD d s k = (d,false,0)):=by
    show _ = _
    unfold settleD;rw [if_neg (by rw [hk];decide),if_neg (by rw [hk];decide),if_pos (by rw [hk9];rfl)]
   obtain ⟨o0,o1,o2,o3,o4,o5,o6,o7,o8,o9,o10,ol⟩:=cells11 Go.out;obtain ⟨fo0,fo1,fo2,fo3,fo4,fo5,fo6,fo7,fo8,fo9,fo10⟩:=frozen11 Go.out;go_wp2;clear o0 o1 o2 o3 o4 o5 o6 o7 o8 o9 o10 fo0 fo1 fo2 fo3 fo4 fo5 fo6 fo7 fo8 fo9 fo10 ol d0 d1 d2 d3 d4 d5 d6 d7 d8 d9 d10 fd0 fd1 fd2 fd3 fd4 fd5 fd6 fd7 fd8 fd9 fd10 dl s0 s1 s2 s3 sl;obtain ⟨HC9,HM9⟩:=CBox.putZ (Go.out);generalize World.setCell _ ⟨n3,10,none⟩ _ = W9 at *;obtain ⟨r0,r1,r2,r3,r4,r5,r6,r7,r8,r9,r10,-⟩:=cells11 HC9
   refine bodyPost_ret (by simp [results,Tryz.results84,go_sem,r0,r1,r2,r3,r4,r5,r6,r7,r8,r9,r10];try rfl) rfl ?_;have hd9:Bw w W9:=hA.trans (HM9.upto hA.size (by intro k hk;simp at hk;omega));exact ⟨noDecl,none,0,none,0,false,by rw [HSD2.out];rfl,hd9,fun _ => by rw [HSD2.out];exact ⟨rfl,fun h => by cases h⟩⟩
  ·have hk22:((k:Int) == 2) = false:=by rw [beq_eq_false_iff_ne];omega
   have h1:=HIT.out.single hk;obtain ⟨nm0,hnm⟩:∃ nm,d.names[0]? = some nm:=⟨_,List.getElem?_eq_getElem (by omega)⟩
   have hv0:nmS nm0 = true:=by
    have:=HIT.out.valid;obtain ⟨t,ht⟩:=List.length_eq_one_iff.1 h1;rw [ht] at this hnm;have e:t = nm0:=by simpa using hnm
    rw [← e];exact name_ok this
   have hz0:=nmS_size hv0;have hzi:=itoaB_size HI0.out HI1.out;have hzl:=Lib.itoa_length_le d.id HI0.out HI1.out;have hns:(nm0 ++ itoaB d.id).size≤40000:=by rw [ByteArray.size_append];omega
   have HSD2:Hid (settleD d s k = ({ d with names:=[nm0 ++ itoaB d.id] },true,if nmS (nm0 ++ itoaB d.id) then 0 else 6)):=by
    show _ = _
    unfold settleD;rw [if_neg (by rw [hk];decide),if_neg (by rw [hk];decide),if_neg (by omega),if_neg (by rw [hk];decide),hnm];rfl
   have hr0:=(HDX.out W0 (qrefl _)).names;obtain ⟨b1,o1,rfl,hb1,c1⟩:=strs_at (reads_strs.1 hr0).1 hnm;rw [Nat.add_zero] at c1;have hki:(0:Int) < (d.names.length:Int):=by omega
   have hkn:0 < d.names.length:=by omega
   have hsum:nm0.size + (Lib.itoa d.id).length≤9223372036854775807:=by omega
   clear hk h1 hnm hv0 hz0 hzi hzl;go_upto_region 7 with (fail)
   have hb0:Bw W0 W0.drew:=(Mod.refl [] W0).drew.below;have hS:(fun W:World => W.cell? ⟨w.heap.size,3,none⟩ = some (.slice (some ⟨b1,o1,none⟩) d.names.length cn)∧W.cell? ⟨w.heap.size,0,none⟩ = some (.int .i64 d.id)∧W.cell? ⟨b1,o1,none⟩ = some (.string nm0)) W0.drew:=⟨(hb0.cell (p:=⟨w.heap.size,_,none⟩) dl).trans d3,(hb0.cell (p:=⟨w.heap.size,_,none⟩) dl).trans d0,(hb0.cell (p:=⟨b1,_,none⟩) hb1).trans c1⟩
   refine wp_region_noPanic (region_planG (fun W:World => W.cell? ⟨w.heap.size,3,none⟩ = some (.slice (some ⟨b1,o1,none⟩) d.names.length cn)∧W.cell? ⟨w.heap.size,0,none⟩ = some (.int .i64 d.id)∧W.cell? ⟨b1,o1,none⟩ = some (.string nm0)) 8 [(true,0),(true,1),(true,2),(true,3),(true,4),(true,5),(false,6),(true,7)] mixedK (by kernel_rfl) (fun _ _ _ _ _ h => h) hS ?_);clear hS
   iterate 6 (refine planG_take (v:=?_) rfl (by rfl) ?_ ?_;rotate_left;(focus (intro wq hSw;(try dsimp only at hSw);go_simp;(try rw [if_neg (by first | omega | (simp;omega))]);(try with_reducible rfl)));(try simp only [gA,gB,gC,Act.put,gD,gE,gF]))
   (refine planG_one rfl (by rfl) (fun K hK => ?_);go_simp)
   refine (Tryz.strconv_Itoa d.id HI0.out HI1.out W0.drew (tab_below HTB.out (by kernel_rfl:_ = some 1) (qtrans hA hb0))).mono ?_;rintro e W1 ⟨rfl,n9,os9,hw9⟩;have hb1':Bw W0 W1:=by rw [hw9];exact qtrans hb0 (Lib.below_grow _ _ (Nat.le_refl _) _ _)
   clear hw9;refine hK.out _ _ ⟨(hb1'.cell (p:=⟨w.heap.size,_,none⟩) dl).trans d3,(hb1'.cell (p:=⟨w.heap.size,_,none⟩) dl).trans d0,(hb1'.cell (p:=⟨b1,_,none⟩) hb1).trans c1⟩ ?_;clear hK K
   (try simp only [gA,gB,gC,Act.put,gD,gE,gF])
   iterate 1 (refine planG_take (v:=?_) rfl (by rfl) ?_ ?_;rotate_left;(focus (intro wq hSw;(try dsimp only at hSw);go_simp;(try rw [if_neg (by first | omega | (simp;omega))]);(try with_reducible rfl)));(try simp only [gA,gB,gC,Act.put,gD,gE,gF]))
   refine planG_end ?_;rw [show (⟨(Lib.itoa d.id).toArray⟩:ByteArray) = itoaB d.id from rfl];generalize nm0 ++ itoaB d.id = nm at *;generalize itoaB d.id = nmi at *;have HB1':=lH hb1';have g3:=(Gd.out.below hb1').cell (i:=3) (v:=.slice (some ⟨b1,o1,none⟩) d.names.length cn) rfl;have fg3:=(Gd.out.below hb1').frozen 3;have gl:=(Gd.out.below hb1').lt;clear hsum hb0 hb1' hb1;go_wp2;refine NoPanic.normal ?_;go_upto_region 16 with (fail)
   have hN3:n3 < W1.heap.size:=by have:=HB1'.out.size;omega
   have hA1:Bw w W1:=qtrans hA HB1'.out;have hsz:(W1.setCell ⟨w.heap.size,3,none⟩ (.slice (some ⟨W1.heap.size,0,none⟩) 1 1)).heap.size = W1.heap.size:=World.size_setCell _ _ _;have HM1:Mod [w.heap.size] W1 (W1.setCell ⟨w.heap.size,3,none⟩ (.slice (some ⟨W1.heap.size,0,none⟩) 1 1)):=(Mod.refl [w.heap.size] W1).setCell (p:=⟨w.heap.size,3,none⟩) (by simp) _;have HG1:=(Gd.out.below HB1'.out).set 3 (.slice (some ⟨W1.heap.size,0,none⟩) 1 1);have HN1:=CBox.new (W1.setCell ⟨w.heap.size,3,none⟩ (.slice (some ⟨W1.heap.size,0,none⟩) 1 1)) 9 #[.string nm]
   have HQ1:=qalloc (W1.setCell ⟨w.heap.size,3,none⟩ (.slice (some ⟨W1.heap.size,0,none⟩) 1 1)) (.cells #[.string nm] 9);rw [hsz] at HN1;have HB1:Bw w (W1.setCell ⟨w.heap.size,3,none⟩ (.slice (some ⟨W1.heap.size,0,none⟩) 1 1)):=(hA1).trans (HM1.upto (hA1).size (by intro k hk;simp at hk;omega));have HG2:=lH (HG1.alloc (.cells #[.string nm] 9));have HO2:=lH (((Go.out.below HB1'.out).mod HM1 (by simp;omega)).alloc (.cells #[.string nm] 9));have HB2:=lH (qtrans HB1 HQ1)
   have HS2:Hid (Reads _ (n3 :: X) (subsT d.body.subs) (.slice sa d.body.subs.length cs)):=((((HDX.out W1 HB1'.out).fewer (Y:=w.heap.size :: n3 :: X) (by intro k hk;simp at hk ⊢;rcases hk with h | h | h <;> simp [h])).mod (HM1.mono (by intro k hk;rw [List.mem_singleton.1 hk];exact List.mem_cons_self ..))).subs.below HQ1).fewer inT;have hcs:=HDX.out W1 HB1'.out;have HCS:Hid (d.body.subs.length≤cs∧cs≤9223372036854775807):=⟨hcs.hs1,hcs.hs2⟩
   have HNX:Hid (W1.heap.size ∉ n3 :: X):=fun h => by
    rcases List.mem_cons.1 h with h | h
    ·omega
    ·have:=HXX.out _ h;omega
   have HN2:=lH HN1;generalize ((W1.setCell ⟨w.heap.size,3,none⟩ (.slice (some ⟨W1.heap.size,0,none⟩) 1 1)).alloc (.cells #[.string nm] 9)) = w2 at *;clear HN1 HQ1 HM1 HG1 HB1 hsz hcs c1 hki hkn g3 fg3 gl d0 d1 d2 d3 d4 d5 d6 d7 d8 d9 d10 fd0 fd1 fd2 fd3 fd4 fd5 fd6 fd7 fd8 fd9 fd10 dl s0 s1 s2 s3 sl;generalize W1.heap.size = N at *;have HD2:Hid (DecX w2 (n3 :: X) { d with names:=[nm] } (some ⟨N,0,none⟩) 1 sa cs):=⟨strs_lone HNX.out HN2.out (by simp),HS2.out,Nat.le_refl _,by decide,HCS.out.1,HCS.out.2⟩
   obtain ⟨g0,g1,g2,g3,g4,g5,g6,g7,g8,g9,g10,gl⟩:=cells11 HG2.out;have n0:=HN2.out.cell (i:=0) (v:=.string nm) rfl;have nl:=HN2.out.lt;go_wp2_with (fail)
   refine (HNM.out nm hns w2).mono ?_;rintro e w3 ⟨rfl,hb3⟩;clear g0 g1 g2 g3 g4 g5 g6 g7 g8 g9 g10 gl n0 nl;have hw3:Bw w w3:=qtrans HB2.out (hb3.mono (Nat.le_refl _));have HO3:=lH (HO2.out.below hb3);have HG3:=lH (HG2.out.below hb3);have HD3:=lH (HD2.out.below hb3);clear HO2 HG2 HD2 HN2 HS2 HB2 hb3
   cases hq:nmS nm with
   | true =>
    obtain ⟨g0,g1,g2,g3,g4,g5,g6,g7,g8,g9,g10,gl⟩:=cells11 HG3.out;obtain ⟨o0,o1,o2,o3,o4,o5,o6,o7,o8,o9,o10,ol⟩:=cells11 HO3.out;obtain ⟨fo0,fo1,fo2,fo3,fo4,fo5,fo6,fo7,fo8,fo9,fo10⟩:=frozen11 HO3.out;go_wp2;clear g0 g1 g2 g3 g4 g5 g6 g7 g8 g9 g10 gl o0 o1 o2 o3 o4 o5 o6 o7 o8 o9 o10 fo0 fo1 fo2 fo3 fo4 fo5 fo6 fo7 fo8 fo9 fo10 ol
    obtain ⟨HC9,HM9⟩:=CBox.eleven (HO3.out) (.int .i64 d.id) (.int .i64 d.kind) (.bool d.pub) (.slice (some ⟨N,0,none⟩) 1 1) (.bool d.doubt) (.int .i64 d.body.kind) (.string d.body.name) (.string d.body.more) (.int .i64 d.body.num) (.int .i64 d.body.den) (.slice sa d.body.subs.length cs);generalize World.setCell _ ⟨n3,10,none⟩ _ = W9 at *;obtain ⟨r0,r1,r2,r3,r4,r5,r6,r7,r8,r9,r10,-⟩:=cells11 HC9;refine bodyPost_ret (by simp [results,Tryz.results84,go_sem,r0,r1,r2,r3,r4,r5,r6,r7,r8,r9,r10];try rfl) rfl ?_
    have hd9:Bw w W9:=hw3.trans (HM9.upto hw3.size (by intro k hk;simp at hk;omega))
    have e0:settleD d s k = ({ d with names:=[nm] },true,0):=by rw [HSD2.out,hq];rfl
    exact ⟨{ d with names:=[nm] },some ⟨N,0,none⟩,1,sa,cs,true,by rw [e0];rfl,hd9,fun _ => by rw [e0];exact ⟨rfl,fun _ => ⟨rfl,(HD3.out.mod (HM9.mono inC)).fewer inT⟩⟩⟩
   | false =>
    obtain ⟨o0,o1,o2,o3,o4,o5,o6,o7,o8,o9,o10,ol⟩:=cells11 HO3.out;obtain ⟨fo0,fo1,fo2,fo3,fo4,fo5,fo6,fo7,fo8,fo9,fo10⟩:=frozen11 HO3.out;go_wp2;clear o0 o1 o2 o3 o4 o5 o6 o7 o8 o9 o10 fo0 fo1 fo2 fo3 fo4 fo5 fo6 fo7 fo8 fo9 fo10 ol;obtain ⟨HC9,HM9⟩:=CBox.putZ (HO3.out);generalize World.setCell _ ⟨n3,10,none⟩ _ = W9 at *;obtain ⟨r0,r1,r2,r3,r4,r5,r6,r7,r8,r9,r10,-⟩:=cells11 HC9;refine bodyPost_ret (by simp [results,Tryz.results84,go_sem,r0,r1,r2,r3,r4,r5,r6,r7,r8,r9,r10];try rfl) rfl ?_
    have hd9:Bw w W9:=hw3.trans (HM9.upto hw3.size (by intro k hk;simp at hk;omega))
    have e0:settleD d s k = ({ d with names:=[nm] },true,6):=by rw [HSD2.out,hq];rfl
    exact ⟨noDecl,none,0,none,0,false,by rw [e0];rfl,hd9,fun h => by rw [e0] at h;cases h⟩
end Go.Proofs.YtdpnfkjafhbndaaGreatDoor

