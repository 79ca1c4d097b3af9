/- The law ModmergeSettle, walked: it returns true. -/
import Derived.Test.YtdpnfkjafhbndaaGreatDoorSSW
import Derived.Test.YtdpnfkjafhbndaaGreatDoorSGE
import Derived.Test.YtdpnfkjafhbndaaGreatDoorSYC
namespace Go.Proofs.YtdpnfkjafhbndaaGreatDoor
open Go.RowKit Go.Shelf
attribute [local go_sem] Oper.semAt_some
theorem one_modS {w:World} {B:Nat} {b:OMod} {aub adb:Option Addr} {cub cdb:Nat} (h:CBox w B 52 #[.string b.label,.slice aub b.uses.length cub,.slice adb b.decls.length cdb]) (hb:ModIn w [] b aub cub adb cdb):ModsAt w B [b]:=
 ⟨h.lt,fun i x hi => by
  match i,hi with
  | 0,hi => injection hi with hi;subst hi;exact ⟨_,_,_,_,hb,h.cell (i:=0) rfl,h.cell (i:=1) rfl,h.cell (i:=2) rfl⟩
  | (i + 1),hi => simp at hi⟩
theorem noX_smS:SmX 40000 noX:=SmX.mk (Nat.zero_le _) (Nat.zero_le _) ⟨by decide,by decide⟩ ⟨by decide,by decide⟩ ⟨by decide,by decide⟩ (fun y hy => by cases hy)
theorem settle_smN {m:OMod} {s:OSpot} {k:Int} (S:SmN m):SmN (settleM m s k):=by
 by_cases h:settleMErr m s k = 0
 ·obtain ⟨hm,hs,hb,hl,e⟩:=settle_ok h
  have hk:=sideBad_range hb;rw [e];refine ⟨settle_sm S.1 hm hk hl (fun t ht => by have:=nmS_size ht;omega) noX_smS,fun d hd => ?_⟩;have V:=valM (settle_valid hm hk hl);have:=(exprErr_iff.1 (decl_ok (V.decl d hd)).2.2.2).1;omega
 ·have e:settleM m s k = noMod:=by unfold settleM;rw [if_neg h]
  rw [e];exact And.intro (SmM.mk (Nat.zero_le _) (by intro t ht;cases ht) (Nat.zero_le _) (by intro d hd;cases hd) (Nat.zero_le _)) (by intro d hd;cases hd)
theorem spotsM_lenS (m:OMod):(spotsM m).length≤1000000:=by
 by_cases hm:modErr m = 0
 ·unfold spotsM;rw [if_pos hm];exact spots_len (valM hm)
 ·unfold spotsM;rw [if_neg hm];exact Nat.zero_le _
set_option maxRecDepth 100000 in
set_option maxHeartbeats 8000000 in
theorem LModmergeSettle_any (b:OMod) (s:OSpot) (k:Int) (aub adb:Option Addr) (cub cdb:Nat) (w:World) (hb:ModIn w [] b aub cub adb cdb) (hbb:BigM b) (hps:s.pack.size≤4000000) (hk0:-9223372036854775808≤k) (hk1:k≤9223372036854775807) (htab:Lib.TabIs Tryz.prog w "internal/strconv.uint64pow10" .u64 Lib.pow10Tab) :
  Calls Tryz.prog 12 #[modV b aub cub adb cdb,.agg #[.string s.pack,.int .i64 s.kind,.int .i64 s.id,.int .i64 s.pos],.int .i64 k] w fun e w' => e = .returned (.bool true)∧Bw w w':=by
 have gb:CBox ((w.alloc (.cells #[.string b.label,.slice aub b.uses.length cub,.slice adb b.decls.length cdb] 52)).alloc (.cells #[.string s.pack,.int .i64 s.kind,.int .i64 s.id,.int .i64 s.pos] 54)) w.heap.size 52 #[.string b.label,.slice aub b.uses.length cub,.slice adb b.decls.length cdb]:=(CBox.new w 52 _).alloc _;have gs:=CBox.new (w.alloc (.cells #[.string b.label,.slice aub b.uses.length cub,.slice adb b.decls.length cdb] 52)) 54 #[.string s.pack,.int .i64 s.kind,.int .i64 s.id,.int .i64 s.pos];rw [World.size_alloc] at gs
 have hA:Bw w ((w.alloc (.cells #[.string b.label,.slice aub b.uses.length cub,.slice adb b.decls.length cdb] 52)).alloc (.cells #[.string s.pack,.int .i64 s.kind,.int .i64 s.id,.int .i64 s.pos] 54)):=qtrans (qalloc _ _) (qalloc _ _);have HMb:=lH hb;have HGb:=lH hbb;have HTB:=lH htab;have HAW:=lH awake33_any;clear hb hbb htab;unfold modV
 go_enter Tryz.func12,Tryz.ntmps12
 go_upto_region 1 with (fail)
 generalize ((w.alloc (.cells #[.string b.label,.slice aub b.uses.length cub,.slice adb b.decls.length cdb] 52)).alloc (.cells #[.string s.pack,.int .i64 s.kind,.int .i64 s.id,.int .i64 s.pos] 54)) = W0 at *;obtain ⟨S,hS⟩:∃ R,w.heap.size + 1 = R:=⟨_,rfl⟩;rw [hS] at gs ⊢;obtain ⟨B,hB⟩:∃ R,w.heap.size = R:=⟨_,rfl⟩;rw [hB] at gb ⊢;clear hS hB;have HW0:=lH hA;have HBb0:=lH gb;have HBs0:=lH gs;clear hA gb gs;obtain ⟨yb0,yb1,yb2,ybl⟩:=cells3 HBb0.out;obtain ⟨ys0,ys1,ys2,ys3,ysl⟩:=cells4 HBs0.out
 have hal:=qalloc W0 (.cells #[.string b.label,.slice aub b.uses.length cub,.slice adb b.decls.length cdb] 52);have hw1:=HW0.out.trans (hal.mono HW0.out.size);have ys9:=((HBs0.out.below hal).cell (i:=0) (v:=.string s.pack) rfl)
 have HG:=lH (great33_any [b] W0.heap.size _ (one_modS (CBox.new W0 52 #[.string b.label,.slice aub b.uses.length cub,.slice adb b.decls.length cdb]) (HMb.out.below hw1)) (by
  intro y hy;rw [List.mem_singleton.1 hy]
  exact HGb.out) (by simp))
 have HGF:Hid ([b].any greatM = false→SmN b):=fun h => by
  simp only [List.any_cons,List.any_nil,Bool.or_false] at h
  exact smM_of HGb.out h
 have HAL:=lH hal;clear hal hw1 ys9;generalize [b].any greatM = q at *
 cases q with
 | true =>
  go_wp2_with (fail)
  refine HG.out.mono ?_;rintro e w2 ⟨rfl,hb2⟩;have HW2:=lH (HW0.out.trans ((HAL.out.trans (hb2.mono HAL.out.size)).mono HW0.out.size));go_wp2_with (fail)
  refine (HAW.out _).mono ?_;rintro e wz ⟨rfl,hbz⟩;go_wp2;go_ret;exact ⟨rfl,HW2.out.trans (hbz.mono HW2.out.size)⟩
 | false =>
  have HSb:=lH (HGF.out rfl);clear HGF HGb;go_wp2_with (fail)
  refine HG.out.mono ?_;rintro e w2 ⟨rfl,hb2⟩;have hb02:=HAL.out.trans (hb2.mono HAL.out.size);have HBb2:=lH (HBb0.out.below hb02);have HBs2:=lH (HBs0.out.below hb02);have HW2:=lH (HW0.out.trans (hb02.mono HW0.out.size));clear HBb0 HBs0 HW0;clear hb2 hb02 HAL HG yb0 yb1 yb2 ybl ys0 ys1 ys2 ys3 ysl;obtain ⟨ys0,ys1,ys2,ys3,ysl⟩:=cells4 HBs2.out;obtain ⟨yb0,yb1,yb2,ybl⟩:=cells3 HBb2.out
  by_cases h200:200 < s.pack.size
  ·have hd1:decide ((200:Int) < (s.pack.size:Int)) = true:=decide_eq_true (by omega)
   have hd2:decide ((s.pack.size:Int) > 200) = true:=decide_eq_true (by omega);go_wp2_with (fail)
   refine (HAW.out _).mono ?_;rintro e wz ⟨rfl,hbz⟩;go_wp2;go_ret;exact ⟨rfl,HW2.out.trans (hbz.mono HW2.out.size)⟩
  ·have hd1:decide ((200:Int) < (s.pack.size:Int)) = false:=decide_eq_false (by omega)
   have hd2:decide ((s.pack.size:Int) > 200) = false:=decide_eq_false (by omega);obtain ⟨q,hq⟩:∃ q,settleMErr b s k = q:=⟨_,rfl⟩;obtain ⟨x,hx⟩:∃ x,settleM b s k = x:=⟨_,rfl⟩;have HSX:Hid (SmN x):=by show SmN x;rw [← hx];exact settle_smN HSb.out
   have HQ:=lH hq;have HX:=lH hx;clear hq hx;have HC:=lH (mSettle_any b s k aub adb cub cdb [] w2 (by simp) ⟨HMb.out.below HW2.out,HSb.out.1,HSb.out.2⟩ hk0 hk1 (tab_below HTB.out (by kernel_rfl:_ = some 1) HW2.out));unfold modV at HC;go_wp2_with (fail)
   refine HC.out.mono ?_;rintro e w3 ⟨aux,cux,adx,cdx,rfl,hmx,hbm⟩;rw [HX.out] at hmx;rw [HQ.out,HX.out];unfold modV;clear HC yb0 yb1 yb2 ybl ys0 ys1 ys2 ys3 ysl;have hal:=qalloc w3 (.cells #[.string x.label,.slice aux x.uses.length cux,.slice adx x.decls.length cdx] 52);have hbn:=qtrans hbm hal;have HBXx:=lH (CBox.new w3 52 #[.string x.label,.slice aux x.uses.length cux,.slice adx x.decls.length cdx]);have HMXx:=lH (hmx.below hal);have HBb4:=lH (HBb2.out.below hbn);have HBs4:=lH (HBs2.out.below hbn)
   have HW4:=lH (HW2.out.trans (hbn.mono HW2.out.size));clear HBb2 HBs2 HW2;go_upto_region 4 with (fail)
   clear hal hbn hbm hmx;generalize World.alloc w3 _ = w4 at *;generalize w3.heap.size = Nx at *;obtain ⟨ys0,ys1,ys2,ys3,ysl⟩:=cells4 HBs4.out;obtain ⟨yb0,yb1,yb2,ybl⟩:=cells3 HBb4.out;have HC:=lH (r33Settle_any b s k aub adb cub cdb [] w4 (by simp) ⟨HMb.out.below HW4.out,HSb.out.1,HSb.out.2⟩ hk0 hk1);unfold modV at HC;go_wp2_with (fail)
   refine HC.out.mono ?_;rintro e w5 ⟨auy,cuy,ady,cdy,rfl,hmx,hbm⟩;rw [HX.out] at hmx;rw [HQ.out,HX.out];unfold modV;clear HC yb0 yb1 yb2 ybl ys0 ys1 ys2 ys3 ysl;have hal:=qalloc w5 (.cells #[.string x.label,.slice auy x.uses.length cuy,.slice ady x.decls.length cdy] 52);have hbn:=qtrans hbm hal;have HBXy:=lH (CBox.new w5 52 #[.string x.label,.slice auy x.uses.length cuy,.slice ady x.decls.length cdy]);have HMXy:=lH (hmx.below hal);have HBXx:=lH (HBXx.out.below hbn);have HMXx:=lH (HMXx.out.below hbn);have HBb6:=lH (HBb4.out.below hbn)
   have HBs6:=lH (HBs4.out.below hbn);have HW6:=lH (HW4.out.trans (hbn.mono HW4.out.size));clear HBb4 HBs4 HW4;go_upto_region 5 with (fail)
   clear hal hbn hbm hmx;generalize World.alloc w5 _ = w6 at *;generalize w5.heap.size = Ny at *
   have SW:Hid (∀ W:World,Bw w6 W→(W.cell? ⟨B,0,none⟩ = some (.string b.label)∧W.cell? ⟨B,1,none⟩ = some (.slice aub b.uses.length cub)∧W.cell? ⟨B,2,none⟩ = some (.slice adb b.decls.length cdb)∧W.cell? ⟨Nx,0,none⟩ = some (.string x.label)∧W.cell? ⟨Nx,1,none⟩ = some (.slice aux x.uses.length cux)∧W.cell? ⟨Nx,2,none⟩ = some (.slice adx x.decls.length cdx)∧W.cell? ⟨Ny,0,none⟩ = some (.string x.label)∧W.cell? ⟨Ny,1,none⟩ = some (.slice auy x.uses.length cuy)∧W.cell? ⟨Ny,2,none⟩ = some (.slice ady x.decls.length cdy)∧B < W.heap.size∧Nx < W.heap.size∧Ny < W.heap.size)):=lH (fun W hW => ⟨(HBb6.out.below hW).cell (i:=0) (v:=.string b.label) rfl,(HBb6.out.below hW).cell (i:=1) (v:=.slice aub b.uses.length cub) rfl,(HBb6.out.below hW).cell (i:=2) (v:=.slice adb b.decls.length cdb) rfl,(HBXx.out.below hW).cell (i:=0) (v:=.string x.label) rfl,(HBXx.out.below hW).cell (i:=1) (v:=.slice aux x.uses.length cux) rfl,(HBXx.out.below hW).cell (i:=2) (v:=.slice adx x.decls.length cdx) rfl,(HBXy.out.below hW).cell (i:=0) (v:=.string x.label) rfl,(HBXy.out.below hW).cell (i:=1) (v:=.slice auy x.uses.length cuy) rfl,(HBXy.out.below hW).cell (i:=2) (v:=.slice ady x.decls.length cdy) rfl,(HBb6.out.below hW).lt,(HBXx.out.below hW).lt,(HBXy.out.below hW).lt⟩)
   have HBW:=lH (fun W (h:Bw w6 W) => HMb.out.below (HW6.out.trans (h.mono HW6.out.size)));have HC1:=lH (fun W (h:Bw w6 W) => mConflicts_any b aub cub adb cdb W (HBW.out W h) HSb.out.1);have HC2:=lH (fun W (h:Bw w6 W) => r33Conflicts_any b aub cub adb cdb W (HBW.out W h) HSb.out.1);have HC3:=lH (fun W (h:Bw w6 W) => mClean_any b aub cub adb cdb W (HBW.out W h) HSb.out.1);have HC4:=lH (fun W (h:Bw w6 W) => r33Clean_any b aub cub adb cdb W (HBW.out W h) HSb.out.1)
   have HC5:=lH (fun W (h:Bw w6 W) => r24Same_any x x aux adx auy ady cux cdx cuy cdy W (HMXx.out.below h) (HMXy.out.below h) (fun d hd => ⟨(HSX.out.1.decls d hd).len,HSX.out.2 d hd⟩) HSX.out.1.ulen HSX.out.1.dlen);unfold modV at HC1 HC2 HC3 HC4 HC5;rw [sameM_iff.2 rfl] at HC5;have HLL:=lH (spotsM_lenS b);generalize spotsM b = L at *;generalize cleanB b = cb at *;have hcc:(cb == cb) = true:=by simp
   have hqq:(q == q) = true:=by simp
   have hbd:Bw w6 w6.drew:=(Mod.refl [] w6).drew.below;clear HMb HBW HX HQ HTB
   refine wp_region_noPanic (region_planT (fun W:World => W.cell? ⟨B,0,none⟩ = some (.string b.label)∧W.cell? ⟨B,1,none⟩ = some (.slice aub b.uses.length cub)∧W.cell? ⟨B,2,none⟩ = some (.slice adb b.decls.length cdb)∧W.cell? ⟨Nx,0,none⟩ = some (.string x.label)∧W.cell? ⟨Nx,1,none⟩ = some (.slice aux x.uses.length cux)∧W.cell? ⟨Nx,2,none⟩ = some (.slice adx x.decls.length cdx)∧W.cell? ⟨Ny,0,none⟩ = some (.string x.label)∧W.cell? ⟨Ny,1,none⟩ = some (.slice auy x.uses.length cuy)∧W.cell? ⟨Ny,2,none⟩ = some (.slice ady x.decls.length cdy)∧B < W.heap.size∧Nx < W.heap.size∧Ny < W.heap.size) (.take 0 (.take 2 (.one 1 (.one 3 (.one 4 (.take 5 (.take 6 (.take 8 (.one 7 (.one 9 (.take 10 (.take 11 (.take 12 (.take 13 (.take 14 (.one 15 (.take 16 (.take 17 (.take 18 (.take 19 (.take 20 (.take 21 (.take 22 (.one 23 (.take 24 (.take 25 .done)))))))))))))))))))))))))) mixedK (by kernel_rfl) (fun _ _ _ _ _ h => h) (SW.out _ hbd) ?_)
   iterate 2 (refine planT_take (v:=?_) rfl (by rfl) ?_ ?_;rotate_left;(focus (intro wq hSw;(try dsimp only at hSw);go_simp;(try rw [if_neg (by first | omega | (simp;omega))]);(try with_reducible rfl)));(try simp only [gA,gB,gC,Act.put,gD,gE,gF]))
   generalize w6.drew = v0 at *;refine planT_one rfl (by rfl) (fun K hK => ?_);go_simp;refine (HC1.out _ hbd).mono ?_;rintro e1 v1 ⟨l1,rfl,hl1,hb1⟩;obtain ⟨a1,c1,rfl,hc1⟩:=spots_val hl1
   (try go_simp)
   have hb1:=qtrans hbd hb1;have HL1:=lH hl1;refine hK.out _ _ (SW.out _ hb1) ?_;clear hK K hl1;(try simp only [gA,gB,gC,Act.put,gD,gE,gF]);refine planT_one rfl (by rfl) (fun K hK => ?_);go_simp;refine (HC2.out _ hb1).mono ?_;rintro e2 v2 ⟨l2,rfl,hl2,hb2⟩;obtain ⟨a2,c2,rfl,hc2⟩:=spots_val hl2
   (try go_simp)
   have HL1:=lH (HL1.out.below hb2);have HL2:=lH hl2;have hb2:=qtrans hb1 hb2;refine hK.out _ _ (SW.out _ hb2) ?_;clear hK K hl2;(try simp only [gA,gB,gC,Act.put,gD,gE,gF]);refine planT_one rfl (by rfl) (fun K hK => ?_);go_simp;have HC6:=rSameSpots_any L L a1 a2 c1 c2 v2 HL1.out HL2.out HLL.out;rw [sameSps_iff.2 rfl] at HC6;refine HC6.mono ?_;rintro e3 v3 ⟨rfl,hb3⟩
   (try go_simp)
   have hb3:=qtrans hb2 hb3;refine hK.out _ _ (SW.out _ hb3) ?_;clear hK K HC6;(try simp only [gA,gB,gC,Act.put,gD,gE,gF])
   iterate 3 (refine planT_take (v:=?_) rfl (by rfl) ?_ ?_;rotate_left;(focus (intro wq hSw;(try dsimp only at hSw);go_simp;(try rw [if_neg (by first | omega | (simp;omega))]);(try with_reducible rfl)));(try simp only [gA,gB,gC,Act.put,gD,gE,gF]))
   refine planT_one rfl (by rfl) (fun K hK => ?_);go_simp;refine (HC3.out _ hb3).mono ?_;rintro e4 v4 ⟨rfl,hb4⟩
   (try go_simp)
   have hb4:=qtrans hb3 hb4;refine hK.out _ _ (SW.out _ hb4) ?_;clear hK K;(try simp only [gA,gB,gC,Act.put,gD,gE,gF]);refine planT_one rfl (by rfl) (fun K hK => ?_);go_simp;refine (HC4.out _ hb4).mono ?_;rintro e5 v5 ⟨rfl,hb5⟩
   (try go_simp)
   have hb5:=qtrans hb4 hb5;refine hK.out _ _ (SW.out _ hb5) ?_;clear hK K;(try simp only [gA,gB,gC,Act.put,gD,gE,gF])
   iterate 5 (refine planT_take (v:=?_) rfl (by rfl) ?_ ?_;rotate_left;(focus (intro wq hSw;(try dsimp only at hSw);go_simp;(try rw [if_neg (by first | omega | (simp;omega))]);(try with_reducible rfl)));(try simp only [gA,gB,gC,Act.put,gD,gE,gF]))
   refine planT_one rfl (by rfl) (fun K hK => ?_);go_simp;refine (HC5.out _ hb5).mono ?_;rintro e6 v6 ⟨rfl,hb6⟩
   (try go_simp)
   have hb6:=qtrans hb5 hb6;refine hK.out _ _ (SW.out _ hb6) ?_;clear hK K;(try simp only [gA,gB,gC,Act.put,gD,gE,gF])
   iterate 7 (refine planT_take (v:=?_) rfl (by rfl) ?_ ?_;rotate_left;(focus (intro wq hSw;(try dsimp only at hSw);go_simp;(try rw [if_neg (by first | omega | (simp;omega))]);(try with_reducible rfl)));(try simp only [gA,gB,gC,Act.put,gD,gE,gF]))
   refine planT_one rfl (by rfl) (fun K hK => ?_);go_simp;refine (HAW.out _).mono ?_;rintro e7 v7 ⟨rfl,hb7⟩
   (try go_simp)
   have hb7:=qtrans hb6 hb7;refine hK.out _ _ (SW.out _ hb7) ?_;clear hK K;(try simp only [gA,gB,gC,Act.put,gD,gE,gF])
   iterate 2 (refine planT_take (v:=?_) rfl (by rfl) ?_ ?_;rotate_left;(focus (intro wq hSw;(try dsimp only at hSw);go_simp;(try rw [if_neg (by first | omega | (simp;omega))]);(try with_reducible rfl)));(try simp only [gA,gB,gC,Act.put,gD,gE,gF]))
   refine planT_done ?_;refine NoPanic.normal ?_;go_wp2;go_ret;exact ⟨rfl,HW6.out.trans (hb7.mono HW6.out.size)⟩
end Go.Proofs.YtdpnfkjafhbndaaGreatDoor

