/- modmerge.Settle. -/
import Derived.Test.YtdpnfkjafhbndaaGreatDoorRSG
import Derived.Test.YtdpnfkjafhbndaaGreatDoorRSK
import Derived.Test.YtdpnfkjafhbndaaGreatDoorRSI
import Derived.Test.YtdpnfkjafhbndaaGreatDoorRXU
import Derived.Test.YtdpnfkjafhbndaaGreatDoorRYI
namespace Go.Proofs.YtdpnfkjafhbndaaGreatDoor
open Go.RowKit Go.Shelf
attribute [local go_sem] Oper.semAt_some
structure SettledM (m:OMod) (s:OSpot) (k:Int) (X:List Nat) (w:World) (e:Ending) (w':World):Prop where
  of ::
  out:∃ au cu ad cd,e = .returned (.tuple #[modV (settleM m s k) au cu ad cd,.int .i64 (settleMErr m s k)])∧ModIn w' X (settleM m s k) au cu ad cd∧Below w.heap.size w w'
theorem SettledM.bad {m:OMod} {s:OSpot} {k:Int} {X:List Nat} {w w':World} {q:Int} (h:settleMErr m s k = q) (hq:q≠0) (hb:Bw w w'):SettledM m s k X w (.returned (.tuple #[.agg #[.string ⟨#[]⟩,.slice none 0 0,.slice none 0 0],.int .i64 q])) w':=by
 have e:settleM m s k = noMod:=by unfold settleM;rw [h,if_neg hq]
 refine ⟨none,0,none,0,?_,?_,hb⟩
 ·rw [e,h];rfl
 ·rw [e];exact noMod_in _ _
theorem settleLErr_first {s:OSpot} {k:Int} {ds:List ODecl} {i:Nat} {d:ODecl} (hd:ds[i]? = some d) (h:settleLErr s k (ds.take i) = 0) (hi:d.id = s.id) (hn:(settleD d s k).2.2≠0):settleLErr s k ds = (settleD d s k).2.2:=by
 have e:=split_list hd;rw [e,(settleL_append s k _ _ h).2,settleLErr,if_pos ⟨hi,hn⟩]
theorem settleL_next {s:OSpot} {k:Int} {ds:List ODecl} {i:Nat} {d:ODecl} (hd:ds[i]? = some d) (h:settleLErr s k (ds.take i) = 0) (hn:d.id = s.id→(settleD d s k).2.2 = 0):settleLErr s k (ds.take (i + 1)) = 0∧settleL s k (ds.take (i + 1)) = settleL s k (ds.take i) ++ (setF s k d).toList:=by
 have e:ds.take (i + 1) = ds.take i ++ [d]:=by rw [List.take_add_one,hd];rfl
 have h1:=settleL_append s k (ds.take i) [d] h;rw [e,h1.1,h1.2,settleLErr,if_neg (fun q => q.2 (hn q.1))];refine ⟨rfl,congrArg _ ?_⟩;rw [settleL,settleL];unfold setF
 by_cases hi:d.id = s.id
 ·rw [if_pos hi,if_pos hi,if_pos (hn hi)]
  cases (settleD d s k).2.1 <;> rfl
 ·rw [if_neg hi,if_neg hi];rfl
theorem settleL_len (s:OSpot) (k:Int):∀ l:List ODecl,(settleL s k l).length≤l.length
 | [] => by rw [settleL];exact Nat.le_refl _
 | d :: l => by
  have:=settleL_len s k l;rw [settleL];simp only [List.length_cons]
  split
  ·split
   ·split
    ·simp only [List.length_cons];omega
    ·omega
   ·simp
  ·simp only [List.length_cons];omega
theorem spots_val {w:World} {X:List Nat} {l:List OSpot} {v:Value} (h:Reads w X (spotsT l) v):∃ a c,v = .slice a l.length c∧l.length≤c:=by
 obtain ⟨a,c,e,h1,h2⟩:=Reads.val h;exact ⟨a,c,e,h1⟩
theorem spots_len {m:OMod} (V:ValM m):(spotsL m.label m.decls).length≤1000000:=by
 have hcf:∀ d∈m.decls,confX d.body≤400:=fun d hd => by
  have h1:=(exprErr_iff.1 (decl_ok (V.decl d hd)).2.2.2).1;have h2:=conf_nodes d.body;omega
 have:=spotsTo_len (label:=m.label) hcf m.decls.length (Nat.le_refl _);have:=V.dlen;unfold spotsL;omega
theorem sideBad_range {s:OSpot} {k:Int} (h:sideBad s k = false):0≤k∧k≤2:=by
 unfold sideBad at h;simp only [Bool.or_eq_false_iff,decide_eq_false_iff_not] at h
 omega
attribute [local irreducible] World.cell? World.setCell
set_option maxRecDepth 100000 in
set_option maxHeartbeats 8000000 in
theorem mSettle_any (m:OMod) (s:OSpot) (k:Int) (au ad:Option Addr) (cu cd:Nat) (X:List Nat) (w:World) (hX:∀ k,k∈X→k < w.heap.size) (hm:SideIn X w m au cu ad cd) (hk0:-9223372036854775808≤k) (hk1:k≤9223372036854775807) (htab:Lib.TabIs Tryz.prog w "internal/strconv.uint64pow10" .u64 Lib.pow10Tab) :
  Calls Tryz.prog 34 #[modV m au cu ad cd,.agg #[.string s.pack,.int .i64 s.kind,.int .i64 s.id,.int .i64 s.pos],.int .i64 k] w (SettledM m s k X w):=by
 have HX:=lH hX;have HM:=lH hm;have HTB:=lH htab;clear hX hm htab;have gm:CBox (((w.alloc (.cells #[.string m.label,.slice au m.uses.length cu,.slice ad m.decls.length cd] 52)).alloc (.cells #[.string s.pack,.int .i64 s.kind,.int .i64 s.id,.int .i64 s.pos] 54)).alloc (.cells #[.string ⟨#[]⟩,.slice none 0 0,.slice none 0 0] 52)) w.heap.size 52 #[.string m.label,.slice au m.uses.length cu,.slice ad m.decls.length cd]:=((CBox.new w 52 _).alloc _).alloc _
 have gs:=(CBox.new (w.alloc (.cells #[.string m.label,.slice au m.uses.length cu,.slice ad m.decls.length cd] 52)) 54 #[.string s.pack,.int .i64 s.kind,.int .i64 s.id,.int .i64 s.pos]).alloc (.cells #[.string ⟨#[]⟩,.slice none 0 0,.slice none 0 0] 52);have gr:=CBox.new ((w.alloc (.cells #[.string m.label,.slice au m.uses.length cu,.slice ad m.decls.length cd] 52)).alloc (.cells #[.string s.pack,.int .i64 s.kind,.int .i64 s.id,.int .i64 s.pos] 54)) 52 #[.string ⟨#[]⟩,.slice none 0 0,.slice none 0 0];rw [World.size_alloc] at gs
 rw [World.size_alloc,World.size_alloc] at gr;have hA:Bw w (((w.alloc (.cells #[.string m.label,.slice au m.uses.length cu,.slice ad m.decls.length cd] 52)).alloc (.cells #[.string s.pack,.int .i64 s.kind,.int .i64 s.id,.int .i64 s.pos] 54)).alloc (.cells #[.string ⟨#[]⟩,.slice none 0 0,.slice none 0 0] 52)):=qtrans (qtrans (qalloc _ _) (qalloc _ _)) (qalloc _ _)
 have hs4:(((w.alloc (.cells #[.string m.label,.slice au m.uses.length cu,.slice ad m.decls.length cd] 52)).alloc (.cells #[.string s.pack,.int .i64 s.kind,.int .i64 s.id,.int .i64 s.pos] 54)).alloc (.cells #[.string ⟨#[]⟩,.slice none 0 0,.slice none 0 0] 52)).heap.size = w.heap.size + 1 + 1 + 1:=by simp only [World.size_alloc]
 unfold modV
 go_enter Tryz.func34,Tryz.ntmps34
 go_upto_region 1 with (fail)
 generalize (((w.alloc (.cells #[.string m.label,.slice au m.uses.length cu,.slice ad m.decls.length cd] 52)).alloc (.cells #[.string s.pack,.int .i64 s.kind,.int .i64 s.id,.int .i64 s.pos] 54)).alloc (.cells #[.string ⟨#[]⟩,.slice none 0 0,.slice none 0 0] 52)) = W0 at *;generalize hn2:w.heap.size + 1 = n2 at *;generalize hn3:n2 + 1 = R at *;have HSZ:Hid (w.heap.size < n2∧n2 < R∧W0.heap.size = R + 1):=⟨by omega,by omega,hs4⟩;have Gm:=lH gm;have Gs:=lH gs;have Gr:=lH gr;have HA:=lH hA
 have HMX:Hid (∀ W,Bw W0 W→SideIn (R :: X) W m au cu ad cd):=fun W hW => ((HM.out.more (k:=R) (by have:=HSZ.out;omega)).below hA).below hW;clear hn2 hn3 hs4 gm gs gr hA;obtain ⟨y0,y1,y2,yl⟩:=cells3 Gm.out;have hsi:=HMX.out W0 (qrefl _);have HCK:=lH (bCheck_any m au cu ad cd W0 (reads_strs.1 hsi.mod.uses).1 hsi.mod.free.decls hsi.sm);unfold modV at HCK;clear hsi;go_wp2_with (fail)
 refine HCK.out.mono ?_;rintro e W1 ⟨rfl,hb1⟩;have HB1:=lH hb1;have HW1:=lH (qtrans HA.out hb1);clear y0 y1 y2 yl HCK hb1;have HEQ:Hid (settleMErr m s k = if modErr m≠0 then modErr m else if !(hasSpot m s) then 8 else if sideBad s k then 2 else settleLErr s k m.decls):=rfl;obtain ⟨q,hq⟩:∃ q,modErr m = q:=⟨_,rfl⟩;rw [hq]
 by_cases h0:q = 0
 case neg =>
  have hz:(q != 0) = true:=by simpa using h0
  have HE:Hid (settleMErr m s k = q):=by show _ = _;rw [HEQ.out,hq,if_pos h0]
  have HQ:=lH h0;clear hq h0;obtain ⟨o0,o1,o2,ol9⟩:=cells3 (Gr.out.below HB1.out);obtain ⟨fo0,fo1,fo2⟩:=frozen3 (Gr.out.below HB1.out)
  (try dsimp only)
  repeat (first | go_values | go_skip | go_guarded | go_step | go_upon | go_in)
  (try simp only [Exit.inBlock,Exit.then])
  clear o0 fo0 o1 fo1 o2 fo2 ol9 ;obtain ⟨HC9,HM9⟩:=CBox.three (Gr.out.below HB1.out) (.string ⟨#[]⟩) (.slice none 0 0) (.slice none 0 0);generalize World.setCell _ ⟨R,2,none⟩ _ = WZ at *;obtain ⟨r0,r1,r2,-⟩:=cells3 HC9;refine bodyPost_ret (by simp [results,Tryz.results34,go_sem,r0,r1,r2];try rfl) rfl ?_;have hdZ:Bw w WZ:=(HW1.out).trans (HM9.upto (HW1.out).size (by intro k hk;simp at hk;have:=HSZ.out;omega));exact SettledM.bad HE.out HQ.out hdZ
 have hz:(q != 0) = false:=by simpa using h0
 have HV0:Hid (modErr m = 0):=hq.trans h0;have HVM:=lH (valM HV0.out);have HEQ2:Hid (settleMErr m s k = if !(hasSpot m s) then 8 else if sideBad s k then 2 else settleLErr s k m.decls):=by show _ = _;rw [HEQ.out,if_neg (fun e => e HV0.out)]
 clear hq h0 HEQ
 have SW:Hid (∀ W:World,Bw W0 W→(W.cell? ⟨w.heap.size,0,none⟩ = some (.string m.label)∧W.cell? ⟨w.heap.size,1,none⟩ = some (.slice au m.uses.length cu)∧W.cell? ⟨w.heap.size,2,none⟩ = some (.slice ad m.decls.length cd)∧W.cell? ⟨n2,0,none⟩ = some (.string s.pack)∧W.cell? ⟨n2,1,none⟩ = some (.int .i64 s.kind)∧W.cell? ⟨n2,2,none⟩ = some (.int .i64 s.id)∧W.cell? ⟨n2,3,none⟩ = some (.int .i64 s.pos))):=lH (fun W hW => ⟨(Gm.out.below hW).cell (i:=0) (v:=.string m.label) rfl,(Gm.out.below hW).cell (i:=1) (v:=.slice au m.uses.length cu) rfl,(Gm.out.below hW).cell (i:=2) (v:=.slice ad m.decls.length cd) rfl,(Gs.out.below hW).cell (i:=0) (v:=.string s.pack) rfl,(Gs.out.below hW).cell (i:=1) (v:=.int .i64 s.kind) rfl,(Gs.out.below hW).cell (i:=2) (v:=.int .i64 s.id) rfl,(Gs.out.below hW).cell (i:=3) (v:=.int .i64 s.pos) rfl⟩)
 have HCF:=lH (fun W (h:Bw W0 W) => mconfl_any m au cu ad cd W (HMX.out W h).mod.free HV0.out (HMX.out W h).sm);unfold modV at HCF;have HLS:Hid ((spotsL m.label m.decls).length≤1000000):=spots_len HVM.out;have HHS:=lH (hasSpot_any m s);have hb1d:Bw W0 W1.drew:=qtrans HB1.out ((Mod.refl [] W1).drew.below);go_upto_region 4 with (fail)
 go_cut [25] from 21 to 25 (fun u wx => u = .bool (!(hasSpot m s))∧Bw W0 wx)
 case first =>
  refine wp_region_noPanic (region_planG (fun W:World => W.cell? ⟨w.heap.size,0,none⟩ = some (.string m.label)∧W.cell? ⟨w.heap.size,1,none⟩ = some (.slice au m.uses.length cu)∧W.cell? ⟨w.heap.size,2,none⟩ = some (.slice ad m.decls.length cd)∧W.cell? ⟨n2,0,none⟩ = some (.string s.pack)∧W.cell? ⟨n2,1,none⟩ = some (.int .i64 s.kind)∧W.cell? ⟨n2,2,none⟩ = some (.int .i64 s.id)∧W.cell? ⟨n2,3,none⟩ = some (.int .i64 s.pos)) 4 [(true,0),(true,2),(false,1),(false,3)] mixedK (by kernel_rfl) (fun _ _ _ _ _ h => h) (SW.out _ hb1d) ?_)
  iterate 2 (refine planG_take (v:=?_) rfl (by rfl) ?_ ?_;rotate_left;(focus (intro wq hSw;(try dsimp only at hSw);go_simp;(try rw [if_neg (by first | omega | (simp;omega))]);(try with_reducible rfl)));(try simp only [gA,gB,gC,Act.put,gD,gE,gF]))
  (refine planG_one rfl (by rfl) (fun K hK => ?_);go_simp)
  refine (HCF.out _ hb1d).mono ?_;rintro e W2 ⟨v,rfl,hv,hb2⟩;have hb2:=qtrans hb1d hb2;obtain ⟨av,cv,rfl,hcv⟩:=spots_val hv;refine hK.out _ _ (SW.out _ hb2) ?_;clear hK K
  (try simp only [gA,gB,gC,Act.put,gD,gE,gF])
  (refine planG_one rfl (by rfl) (fun K hK => ?_);go_simp)
  refine (spContains_any _ s av cv W2 hv HLS.out).mono ?_;rintro e W3 ⟨rfl,hb3⟩;have hb3:=qtrans hb2 hb3;rw [← HHS.out];generalize hasSpot m s = g at *;refine hK.out _ _ (SW.out _ hb3) ?_;clear hK K
  (try simp only [gA,gB,gC,Act.put,gD,gE,gF])
  refine planG_end ?_;go_wp2;refine NoPanic.normal ?_;go_wp2;go_meet
  case rel => exact ⟨rfl,hb3⟩
 case rest =>
 obtain ⟨rfl,hb2⟩:=hcut;have HB2:=lH hb2;have HW2:=lH (qtrans HA.out hb2);generalize wc = W2 at *;clear hb2 hb1d HCF HLS HHS HB1 HW1;obtain ⟨gg,hg⟩:∃ b,hasSpot m s = !b:=⟨!(hasSpot m s),by simp⟩;rw [hg,Bool.not_not]
 cases gg with
 | true =>
  have HE:Hid (settleMErr m s k = 8):=by show _ = _;rw [HEQ2.out,hg];rfl
  obtain ⟨o0,o1,o2,ol9⟩:=cells3 (Gr.out.below HB2.out);obtain ⟨fo0,fo1,fo2⟩:=frozen3 (Gr.out.below HB2.out)
  (try dsimp only)
  repeat (first | go_values | go_skip | go_guarded | go_step | go_upon | go_in)
  (try simp only [Exit.inBlock,Exit.then])
  clear o0 fo0 o1 fo1 o2 fo2 ol9 ;obtain ⟨HC9,HM9⟩:=CBox.three (Gr.out.below HB2.out) (.string ⟨#[]⟩) (.slice none 0 0) (.slice none 0 0);generalize World.setCell _ ⟨R,2,none⟩ _ = WZ at *;obtain ⟨r0,r1,r2,-⟩:=cells3 HC9;refine bodyPost_ret (by simp [results,Tryz.results34,go_sem,r0,r1,r2];try rfl) rfl ?_;have hdZ:Bw w WZ:=(HW2.out).trans (HM9.upto (HW2.out).size (by intro k hk;simp at hk;have:=HSZ.out;omega));exact SettledM.bad HE.out (by decide) hdZ
 | false =>
  have hg:hasSpot m s = true:=hg;have HEQ3:Hid (settleMErr m s k = if sideBad s k then 2 else settleLErr s k m.decls):=by show _ = _;rw [HEQ2.out,hg,if_neg (by decide)]
  have HMI:=lH (spot_mine HVM.out (has_iff.1 hg));clear hg HEQ2;have s1:=(Gs.out.below HB2.out).cell (i:=1) (v:=.int .i64 s.kind) rfl;have sl:=(Gs.out.below HB2.out).lt;have HSB:Hid (sideBad s k = (decide (k < 0) || (decide (2 < k) || (decide (k = 1) && (decide (s.kind = 3) || decide (s.kind = 4)))))):=rfl;go_upto_region 6 with (fail)
  go_cut [46] from 27 to 46 (fun u wx => u = .bool (sideBad s k)∧W2 = wx)
  case first =>
   clear HEQ3 HMI
   by_cases h1:k < 0
   ·have d1:decide (k < 0) = true:=decide_eq_true h1
    go_wp2;go_meet
    case rel => exact ⟨by rw [HSB.out,d1];rfl,rfl⟩
   ·have d1:decide (k < 0) = false:=decide_eq_false h1
    by_cases h2:2 < k
    ·have d2:decide (k > 2) = true:=decide_eq_true h2
     have d2':decide (2 < k) = true:=decide_eq_true h2;go_wp2;go_meet
     case rel => exact ⟨by rw [HSB.out,d1,d2'];rfl,rfl⟩
    ·have d2:decide (k > 2) = false:=decide_eq_false h2
     have d2':decide (2 < k) = false:=decide_eq_false h2
     by_cases h3:k = 1
     ·have d3:(k == 1) = true:=by simp [h3]
      have d3':decide (k = 1) = true:=decide_eq_true h3;clear h3
      by_cases h4:s.kind = 3
      ·have d4:(s.kind == 3) = true:=by simp [h4]
       have d4':decide (s.kind = 3) = true:=decide_eq_true h4;clear h4;go_wp2;go_meet
       case rel => exact ⟨by rw [HSB.out,d1,d2',d3',d4'];rfl,rfl⟩
      ·have d4:(s.kind == 3) = false:=by simp [h4]
       have d4':decide (s.kind = 3) = false:=decide_eq_false h4
       by_cases h5:s.kind = 4
       ·have d5:(s.kind == 4) = true:=by simp [h5]
        have d5':decide (s.kind = 4) = true:=decide_eq_true h5;clear h5;go_wp2;go_meet
        case rel => exact ⟨by rw [HSB.out,d1,d2',d3',d4',d5'];rfl,rfl⟩
       ·have d5:(s.kind == 4) = false:=by simp [h5]
        have d5':decide (s.kind = 4) = false:=decide_eq_false h5;go_wp2;go_meet
        case rel => exact ⟨by rw [HSB.out,d1,d2',d3',d4',d5'];rfl,rfl⟩
     ·have d3:(k == 1) = false:=by simp [h3]
      have d3':decide (k = 1) = false:=decide_eq_false h3;go_wp2;go_meet
      case rel => exact ⟨by rw [HSB.out,d1,d2',d3'];rfl,rfl⟩
  case rest =>
  obtain ⟨rfl,rfl⟩:=hcut;clear s1 sl
  cases hg:sideBad s k with
  | true =>
   have HE:Hid (settleMErr m s k = 2):=by show _ = _;rw [HEQ3.out,hg];rfl
   obtain ⟨o0,o1,o2,ol9⟩:=cells3 (Gr.out.below HB2.out);obtain ⟨fo0,fo1,fo2⟩:=frozen3 (Gr.out.below HB2.out)
   (try dsimp only)
   repeat (first | go_values | go_skip | go_guarded | go_step | go_upon | go_in)
   (try simp only [Exit.inBlock,Exit.then])
   clear o0 fo0 o1 fo1 o2 fo2 ol9 ;obtain ⟨HC9,HM9⟩:=CBox.three (Gr.out.below HB2.out) (.string ⟨#[]⟩) (.slice none 0 0) (.slice none 0 0);generalize World.setCell _ ⟨R,2,none⟩ _ = WZ at *;obtain ⟨r0,r1,r2,-⟩:=cells3 HC9;refine bodyPost_ret (by simp [results,Tryz.results34,go_sem,r0,r1,r2];try rfl) rfl ?_;have hdZ:Bw w WZ:=(HW2.out).trans (HM9.upto (HW2.out).size (by intro k hk;simp at hk;have:=HSZ.out;omega));exact SettledM.bad HE.out (by decide) hdZ
  | false =>
   have HEQ4:Hid (settleMErr m s k = settleLErr s k m.decls):=by show _ = _;rw [HEQ3.out,hg,if_neg (by decide)]
   have HKR:Hid (0≤k∧k≤2):=sideBad_range hg;have HSB2:=lH hg;obtain ⟨kn,hkn⟩:∃ n:Nat,(n:Int) = k:=⟨k.toNat,by have:=HKR.out;omega⟩;subst hkn;have HIT:Hid (∀ d∈m.decls,d.id = s.id→HasIt d s kn):=fun d hd hi => (HMI.out.2.2 d hd hi).has (decl_ok (HVM.out.decl d hd)).2.2.1 HKR.out.1 HKR.out.2 HSB2.out;clear hg HEQ3 HSB HMI
   have y0:=(Gm.out.below HB2.out).cell (i:=0) (v:=.string m.label) rfl;have y1:=(Gm.out.below HB2.out).cell (i:=1) (v:=.slice au m.uses.length cu) rfl;have yl:=(Gm.out.below HB2.out).lt;have hal:=qalloc W2 (.cells #[.string m.label,.slice au m.uses.length cu,.slice none 0 0] 52);have HMG:=lH (CBox.new W2 52 #[.string m.label,.slice au m.uses.length cu,.slice none 0 0]);have HB7:=lH (qtrans HB2.out hal);have HAL:=lH hal
   have HBMe:Hid (W2.heap.size + 1 = (W2.alloc (.cells #[.string m.label,.slice au m.uses.length cu,.slice none 0 0] 52)).heap.size):=(World.size_alloc _ _).symm;clear hal;go_upto_region 9 with (fail)
   clear y0 y1 yl;generalize World.alloc W2 _ = w7 at *;obtain ⟨BM,hBM⟩:∃ BM,W2.heap.size = BM:=⟨_,rfl⟩;rw [hBM] at HMG HBMe ⊢;have HBM:Hid (BM = W2.heap.size):=hBM.symm;clear hBM;have y2:=(Gm.out.below HB7.out).cell (i:=2) (v:=.slice ad m.decls.length cd) rfl;have yl:=(Gm.out.below HB7.out).lt;go_wp2;clear y2 yl
   go_loopw [56] (fun iv wr => ∃ (i:Nat) (v:Value),i≤m.decls.length∧iv = .int .i64 i∧Hid (settleLErr s kn (m.decls.take i) = 0)∧Hid (CBox wr BM 52 #[.string m.label,.slice au m.uses.length cu,v])∧Hid (OwnT wr (BM :: R :: X) w7.heap.size 69 11 declT v (settleL s kn (m.decls.take i)))∧Hid (Mod [BM] w7 wr)) (fun iv _ => m.decls.length - (intOf iv).toNat)
   case atStart => exact ⟨0,.slice none 0 0,Nat.zero_le _,rfl,rfl,HMG,by rw [List.take_zero,settleL];exact OwnT.nil _ _ _ _ _ _,Mod.refl _ _⟩
   case round =>
    obtain ⟨i,v,hil,rfl,HN,HBX,HOW,HMD⟩:=hrel;clear HMG;have hdl:=HVM.out.dlen;have h0w:Bw W0 wr:=HB7.out.trans (HMD.out.upto HB7.out.size (fun k hk => by have h1:=HBM.out;have h2:=HB2.out.size;simp at hk;omega));have hww:Bw w wr:=qtrans HA.out h0w
    by_cases hi:i < m.decls.length
    ·have hd2:decide ((i:Int) < (m.decls.length:Int)) = true:=decide_eq_true (by omega)
     have hir:(i:Int) < (m.decls.length:Int):=by omega
     obtain ⟨d,hd⟩:∃ d,m.decls[i]? = some d:=⟨_,List.getElem?_eq_getElem hi⟩;have hmem:=List.mem_of_getElem? hd;have hside:=HMX.out wr h0w;have h2w:Bw W2 wr:=HAL.out.trans (HMD.out.upto HAL.out.size (fun k hk => by have h1:=HBM.out;simp at hk;omega));have hvge:∀ g,v.ownBlock = some g→w7.heap.size≤g∧g < wr.heap.size:=fun g hg => ⟨HOW.out.ge hg,HOW.out.lt hg⟩
     have hmod:=(((HMX.out W2 HB2.out).mod.more (k:=BM) (by have h1:=HBM.out;omega)).owned v (fun g hg => by have h1:=(hvge g hg).1;have h2:=HBMe.out;have h3:=HBM.out;omega)).below h2w;obtain ⟨b,o,an,cn,sa,cs,rfl,hb,hcell,hn1,hn2,hrn,hc1,hc2,hrs⟩:=decls_elem hmod.decls hd;have HDX:Hid (DecX wr (v.ownBlock.toList ++ (BM :: R :: X)) d an cn sa cs):=⟨hrn.out,hrs.out,hn1,hn2,hc1,hc2⟩;have HSD:=lH (hside.sm.decls d hmem);have HND:=lH (hside.nodes d hmem);have HVD:=lH (decl_ok (HVM.out.decl d hmem));have HIT1:=lH (HIT.out d hmem)
     have HNX:=lH (settleL_next (s:=s) (k:=(kn:Int)) hd HN.out);have HFE:=lH (settleLErr_first (s:=s) (k:=(kn:Int)) hd HN.out);have HLN:Hid ((settleL s kn (m.decls.take i)).length≤1000000):=Nat.le_trans (settleL_len _ _ _) (by rw [List.length_take];have:=HVM.out.dlen;omega);have c0:=hcell 0 (.int .i64 d.id) rfl;have c1:=hcell 1 (.int .i64 d.kind) rfl;have c2:=hcell 2 (.bool d.pub) rfl;have c3:=hcell 3 (.slice an d.names.length cn) rfl;have c4:=hcell 4 (.bool d.doubt) rfl;have c5:=hcell 5 (.int .i64 d.body.kind) rfl
     have c6:=hcell 6 (.string d.body.name) rfl;have c7:=hcell 7 (.string d.body.more) rfl;have c8:=hcell 8 (.int .i64 d.body.num) rfl;have c9:=hcell 9 (.int .i64 d.body.den) rfl;have c10:=hcell 10 (.slice sa d.body.subs.length cs) rfl;rw [Nat.add_zero] at c0;have HVG:=lH hvge;have hal:=qalloc wr (.cells #[.int .i64 d.id,.int .i64 d.kind,.bool d.pub,.slice an d.names.length cn,.bool d.doubt,.int .i64 d.body.kind,.string d.body.name,.string d.body.more,.int .i64 d.body.num,.int .i64 d.body.den,.slice sa d.body.subs.length cs] 69)
     have HNB:=lH (CBox.new wr 69 #[.int .i64 d.id,.int .i64 d.kind,.bool d.pub,.slice an d.names.length cn,.bool d.doubt,.int .i64 d.body.kind,.string d.body.name,.string d.body.more,.int .i64 d.body.num,.int .i64 d.body.den,.slice sa d.body.subs.length cs]);have HAL2:=lH hal;have HBX8:=lH (HBX.out.below hal);have HOW8:=lH (HOW.out.below hal);have HOWN:=lH ((HOW.out.more (k:=wr.heap.size) (Nat.le_refl _)).below hal)
     have HMD8:Hid (Mod [BM] w7 (wr.alloc (.cells #[.int .i64 d.id,.int .i64 d.kind,.bool d.pub,.slice an d.names.length cn,.bool d.doubt,.int .i64 d.body.kind,.string d.body.name,.string d.body.more,.int .i64 d.body.num,.int .i64 d.body.den,.slice sa d.body.subs.length cs] 69))):=HMD.out.trans (Mod.of hal);have H0W8:=lH (qtrans h0w hal);have HWW8:=lH (qtrans hww hal);have HBMl:Hid (BM < wr.heap.size):=HBX.out.lt;clear hcell hrn hrs hd hmem hside hvge hal h2w hmod HN HBX HOW HMD hn1 hn2 hc1 hc2;go_upto_region 12 with (fail)
     clear c0 c1 c2 c3 c4 c5 c6 c7 c8 c9 c10;generalize World.alloc wr _ = w8 at *;generalize hwr:wr.heap.size = N at *;have HWR:=lH hwr;have HAL3:Hid (Bw wr w8):=by first | exact HAL2 | (show Bw wr w8;rw [hwr];exact HAL2.out)
     clear hwr h0w hww;have g0:=HNB.out.cell (i:=0) (v:=.int .i64 d.id) rfl;have gl:=HNB.out.lt;have s2:=(Gs.out.below H0W8.out).cell (i:=2) (v:=.int .i64 s.id) rfl;have sl:=(Gs.out.below H0W8.out).lt
     cases hid:(d.id == s.id) with
     | false =>
      have hne:d.id≠s.id:=by simpa using hid
      have HE9:=lH (HNX.out (fun e => absurd e hne)).1
      have HLS:Hid (settleL s kn (m.decls.take (i + 1)) = settleL s kn (m.decls.take i) ++ [d]):=by
       show _ = _
       rw [(HNX.out (fun e => absurd e hne)).2];unfold setF;rw [if_neg hne];rfl
      have HDX8:=lH (HDX.out.below HAL3.out);clear hne HNX HFE HIT1;go_upto_region 18 with (fail)
      clear hid g0 gl s2 sl;obtain ⟨av,cv,hve,-,-⟩:=HOW8.out.val;have HVE:=lH hve;clear hve;have y2:=HBX8.out.cell (i:=2) (v:=v) rfl;have yl:=HBX8.out.lt;obtain ⟨n0,n1,n2,n3,n4,n5,n6,n7,n8,n9,n10,nl⟩:=cells11 HNB.out;have hal:=qalloc w8 (.cells #[.int .i64 d.id,.int .i64 d.kind,.bool d.pub,.slice an d.names.length cn,.bool d.doubt,.int .i64 d.body.kind,.string d.body.name,.string d.body.more,.int .i64 d.body.num,.int .i64 d.body.den,.slice sa d.body.subs.length cs] 69)
      have HRB:=lH (CBox.new w8 69 #[.int .i64 d.id,.int .i64 d.kind,.bool d.pub,.slice an d.names.length cn,.bool d.doubt,.int .i64 d.body.kind,.string d.body.name,.string d.body.more,.int .i64 d.body.num,.int .i64 d.body.den,.slice sa d.body.subs.length cs]);have HOA:=lH (HOW8.out.below hal);have HBA:=lH (HBX8.out.below hal);have HDA:=lH (HDX8.out.below hal)
      have HMA:Hid (Mod [BM] w7 (w8.alloc (.cells #[.int .i64 d.id,.int .i64 d.kind,.bool d.pub,.slice an d.names.length cn,.bool d.doubt,.int .i64 d.body.kind,.string d.body.name,.string d.body.more,.int .i64 d.body.num,.int .i64 d.body.den,.slice sa d.body.subs.length cs] 69))):=HMD8.out.trans (Mod.of hal)
      have hsz:w7.heap.size≤(w8.alloc (.cells #[.int .i64 d.id,.int .i64 d.kind,.bool d.pub,.slice an d.names.length cn,.bool d.doubt,.int .i64 d.body.kind,.string d.body.name,.string d.body.more,.int .i64 d.body.num,.int .i64 d.body.den,.slice sa d.body.subs.length cs] 69)).heap.size:=HMA.out.size;have hlen:=HLN.out;have HB9:Hid (BM < w7.heap.size):=by show _ < _;have:=HBMe.out;omega
      clear hal HBX8 HOW8 HMD8 HDX8 HNB
      go_wp2_with (at_builtin;refine wpList_decl (v:=v) (X:=BM :: R :: X) (L:=settleL s kn (m.decls.take i)) (B:=w8.heap.size) (d:=d) (an:=an) (cn:=cn) (sa:=sa) (cs:=cs) rfl _ _ rfl rfl HOA.out rfl HRB.out HDA.out (by omega) hsz ?_;rintro v' w' ho7 hm7 ⟨a7,c7,hv7⟩ hb7;have HB7:=lH (HBA.out.mod hm7 (fun hk => by have h1:=HOA.out.ge (by simpa using hk:v.ownBlock = some BM);have h2:=HB9.out;omega));have HM7:Hid (Mod [BM] w7 w'):=HMA.out.after hm7 (fun g hg => HOA.out.ge (by simpa using hg));have k2:=HB7.out.cell (i:=2) (v:=v) rfl;have kf:=HB7.out.frozen 2;have kl:=HB7.out.lt;have HO7:=lH ho7;clear ho7 hm7)
      have hvv:v' = .slice a7 ((settleL s kn (m.decls.take i)).length + 1) c7:=by rw [hv7,List.length_append];rfl
      rw [← hvv];have hRl:R < w7.heap.size:=by have h1:=HSZ.out;have h2:=HB7.out.lt;have h3:=HBM.out;have h4:=HB2.out.size;have h5:=HBMe.out;omega
      have hge:∀ g,v'.ownBlock = some g→g ∉ BM :: R :: X:=fun g hg hx => by
       have h1:=HO7.out.ge hg
       rcases List.mem_cons.1 hx with rfl | hx
       ·have:=HB9.out;omega
       ·rcases List.mem_cons.1 hx with rfl | hx
        ·omega
        ·have h2:=HX.out g hx;have h3:=HSZ.out;omega
      have hL:=HLS.out;refine ⟨⟨i + 1,v',by omega,rfl,HE9,HB7.out.set 2 v',?_,HM7.out.trans ((Mod.refl [BM] w').setCell (by simp) v')⟩,by simp [intOf];omega⟩;show OwnT _ _ _ _ _ _ _ _
      rw [hL];exact HO7.out.mod ((Mod.refl (BM :: R :: X) w').setCell (by simp) v') hge
     | true =>
      have hide:d.id = s.id:=by simpa using hid
      have HXs:∀ k,k∈N :: (v.ownBlock.toList ++ (BM :: R :: X))→k < w8.heap.size:=fun k hk => by
       have h1:=HNB.out.lt
       rcases List.mem_cons.1 hk with rfl | hk
       ·exact h1
       ·rcases List.mem_append.1 hk with hk | hk
        ·have:=(HVG.out k (by simpa using hk)).2;omega
        ·rcases List.mem_cons.1 hk with rfl | hk
         ·have:=HBMl.out;omega
         ·rcases List.mem_cons.1 hk with rfl | hk
          ·have h2:=HSZ.out;have h3:=HB2.out.size;have h4:=HBM.out;have h5:=HBMl.out;omega
          ·have h2:=HX.out k hk;have h3:=HSZ.out;have h4:=HB2.out.size;have h5:=HBM.out;have h6:=HBMl.out;omega
      have HST:=lH (settleDecl_any d s kn an cn sa cs (N :: (v.ownBlock.toList ++ (BM :: R :: X))) w8 HXs ((HDX.out.more (k:=N) (Nat.le_of_eq HWR.out)).below HAL3.out) HSD.out HND.out (by have:=HVD.out;omega) (by have:=HVD.out;omega) (HIT1.out hide) (tab_below HTB.out (by kernel_rfl:_ = some 1) HWW8.out));replace HNX:=lH (fun h => HNX.out (fun _ => h));replace HFE:=lH (HFE.out hide);have HSF:Hid (setF s kn d = if (settleD d s kn).2.1 then some (settleD d s kn).1 else none):=by show setF s kn d = _;unfold setF;rw [if_pos hide]
      obtain ⟨D0,hD0⟩:∃ D,(settleD d s kn).1 = D:=⟨_,rfl⟩;obtain ⟨b0,hb0⟩:∃ b,(settleD d s kn).2.1 = b:=⟨_,rfl⟩;obtain ⟨q,hq⟩:∃ q,(settleD d s kn).2.2 = q:=⟨_,rfl⟩
      have HST2:Hid (Calls Tryz.prog 84 #[.agg #[.int .i64 d.id,.int .i64 d.kind,.bool d.pub,.slice an d.names.length cn,.bool d.doubt,.int .i64 d.body.kind,.string d.body.name,.string d.body.more,.int .i64 d.body.num,.int .i64 d.body.den,.slice sa d.body.subs.length cs],.agg #[.string s.pack,.int .i64 s.kind,.int .i64 s.id,.int .i64 s.pos],.int .i64 kn] w8 fun e w9 => ∃ (D:ODecl) (anD:Option Addr) (cnD:Nat) (saD:Option Addr) (csD:Nat) (b:Bool),e = .returned (.tuple #[.agg #[.int .i64 D.id,.int .i64 D.kind,.bool D.pub,.slice anD D.names.length cnD,.bool D.doubt,.int .i64 D.body.kind,.string D.body.name,.string D.body.more,.int .i64 D.body.num,.int .i64 D.body.den,.slice saD D.body.subs.length csD],.bool b,.int .i64 q])∧Bw w8 w9∧Hid (q = 0→b = b0∧(b = true→D = D0∧DecX w9 (N :: (v.ownBlock.toList ++ (BM :: R :: X))) D anD cnD saD csD))):=by
       refine HST.out.mono ?_;rintro e w9 ⟨D,a1,a2,a3,a4,b,h1,h2,h3⟩;rw [hq] at h1 h3;rw [hD0,hb0] at h3;exact ⟨D,a1,a2,a3,a4,b,h1,h2,h3⟩
      rw [hD0,hb0] at HSF;rw [hq] at HNX HFE;clear hD0 hb0 hq HST HXs hide HIT1;have g1:=HNB.out.cell (i:=1) (v:=.int .i64 d.kind) rfl;have g2:=HNB.out.cell (i:=2) (v:=.bool d.pub) rfl;have g3:=HNB.out.cell (i:=3) (v:=.slice an d.names.length cn) rfl;have g4:=HNB.out.cell (i:=4) (v:=.bool d.doubt) rfl;have g5:=HNB.out.cell (i:=5) (v:=.int .i64 d.body.kind) rfl;have g6:=HNB.out.cell (i:=6) (v:=.string d.body.name) rfl;have g7:=HNB.out.cell (i:=7) (v:=.string d.body.more) rfl
      have g8:=HNB.out.cell (i:=8) (v:=.int .i64 d.body.num) rfl;have g9:=HNB.out.cell (i:=9) (v:=.int .i64 d.body.den) rfl;have g10:=HNB.out.cell (i:=10) (v:=.slice sa d.body.subs.length cs) rfl;have s0:=(Gs.out.below H0W8.out).cell (i:=0) (v:=.string s.pack) rfl;have s1:=(Gs.out.below H0W8.out).cell (i:=1) (v:=.int .i64 s.kind) rfl;have s3:=(Gs.out.below H0W8.out).cell (i:=3) (v:=.int .i64 s.pos) rfl;go_upto_region 13 with (fail)
      go_wp2_with (fail)
      refine HST2.out.mono ?_;rintro e w9 ⟨D,anD,cnD,saD,csD,b9,rfl,hb9,HR9⟩;clear g0 g1 g2 g3 g4 g5 g6 g7 g8 g9 g10 gl s0 s1 s2 s3 sl hid HST2;have hal:=qalloc w9 (.cells #[.int .i64 D.id,.int .i64 D.kind,.bool D.pub,.slice anD D.names.length cnD,.bool D.doubt,.int .i64 D.body.kind,.string D.body.name,.string D.body.more,.int .i64 D.body.num,.int .i64 D.body.den,.slice saD D.body.subs.length csD] 69);have h89:=qtrans hb9 hal
      have HEB:=lH (CBox.new w9 69 #[.int .i64 D.id,.int .i64 D.kind,.bool D.pub,.slice anD D.names.length cnD,.bool D.doubt,.int .i64 D.body.kind,.string D.body.name,.string D.body.more,.int .i64 D.body.num,.int .i64 D.body.den,.slice saD D.body.subs.length csD]);have HNB9:=lH (HNB.out.below h89);have HBX9:=lH (HBX8.out.below h89);have HOW9:=lH (HOW8.out.below h89);have HOWN9:=lH (HOWN.out.below h89)
      have HMD9:Hid (Mod [BM] w7 (w9.alloc (.cells #[.int .i64 D.id,.int .i64 D.kind,.bool D.pub,.slice anD D.names.length cnD,.bool D.doubt,.int .i64 D.body.kind,.string D.body.name,.string D.body.more,.int .i64 D.body.num,.int .i64 D.body.den,.slice saD D.body.subs.length csD] 69))):=HMD8.out.trans (Mod.of h89);have H0W9:=lH (qtrans H0W8.out h89);have HWW9:=lH (qtrans HWW8.out h89);have HAL9:=lH hal;have HNE:Hid (N < w9.heap.size):=Nat.lt_of_lt_of_le HNB.out.lt hb9.size;clear HNB HBX8 HOW8 HOWN HMD8 hal h89 hb9;go_upto_region 14 with (fail)
      have HR10:Hid (q = 0→b9 = b0∧(b9 = true→D = D0∧DecX (w9.alloc (.cells #[.int .i64 D.id,.int .i64 D.kind,.bool D.pub,.slice anD D.names.length cnD,.bool D.doubt,.int .i64 D.body.kind,.string D.body.name,.string D.body.more,.int .i64 D.body.num,.int .i64 D.body.den,.slice saD D.body.subs.length csD] 69)) (N :: (v.ownBlock.toList ++ (BM :: R :: X))) D anD cnD saD csD)):=fun h => ⟨(HR9.out h).1,fun h2 => ⟨((HR9.out h).2 h2).1,((HR9.out h).2 h2).2.below HAL9.out⟩⟩;clear HR9 HAL9;generalize World.alloc w9 _ = w10 at *
      generalize w9.heap.size = N2 at *
      by_cases h0:q = 0
      ·have hz:(q != 0) = false:=by simp [h0]
       obtain ⟨hbb,hdd⟩:=HR10.out h0;subst hbb;have HNY:=lH (HNX.out h0);have HDD:=lH hdd;clear HNX HFE h0 HR10 hdd
       cases b9 with
       | false =>
        have HLS:Hid (settleL s kn (m.decls.take (i + 1)) = settleL s kn (m.decls.take i)):=by show _ = _;rw [HNY.out.2,HSF.out];simp
        go_wp2;go_roundw
        case rel => exact ⟨i + 1,v,by omega,by go_num,HNY.out.1,HBX9,by rw [HLS.out];exact HOW9,HMD9⟩
        case measure => simp [intOf];omega
       | true =>
        obtain ⟨rfl,hdx⟩:=HDD.out rfl;have HLS:Hid (settleL s kn (m.decls.take (i + 1)) = settleL s kn (m.decls.take i) ++ [D]):=by show _ = _;rw [HNY.out.2,HSF.out];rfl
        have HE9:=lH HNY.out.1;have HDX9:=lH hdx;clear HDD hdx HNY HSF;obtain ⟨e0,e1,e2,e3,e4,e5,e6,e7,e8,e9,e10,el⟩:=cells11 HEB.out;obtain ⟨g0,g1,g2,g3,g4,g5,g6,g7,g8,g9,g10,gl⟩:=cells11 HNB9.out;obtain ⟨fg0,fg1,fg2,fg3,fg4,fg5,fg6,fg7,fg8,fg9,fg10⟩:=frozen11 HNB9.out;go_upto_region 18 with (fail)
        clear e0 e1 e2 e3 e4 e5 e6 e7 e8 e9 e10 el g0 g1 g2 g3 g4 g5 g6 g7 g8 g9 g10 fg0 fg1 fg2 fg3 fg4 fg5 fg6 fg7 fg8 fg9 fg10 gl;obtain ⟨HC9,HM9⟩:=CBox.putD HNB9.out D anD cnD saD csD;generalize World.setCell _ ⟨N,10,none⟩ _ = w11 at *;have HNB11:=lH HC9;have hNge:w7.heap.size≤N:=by have h1:=HWR.out;have h2:=HBMl.out;have h3:=HBMe.out;omega
        have hvN:∀ g,v.ownBlock = some g→g ∉ [N]:=fun g hg hx => by have h1:=(HVG.out g hg).2;have h2:=List.mem_singleton.1 hx;omega
        have HBX11:=lH (HBX9.out.mod HM9 (by have h1:=HBMl.out;simp;omega));have HMD11:Hid (Mod [BM] w7 w11):=HMD9.out.after HM9 (fun g hg => by rw [List.mem_singleton.1 hg];exact hNge)
        have HOW11:=lH ((HOWN9.out.mod (HM9.mono inC) (fun g hg hx => by
         have h0:=(HVG.out g hg).1;have h1:=HSZ.out;have h2:=HBM.out;have h3:=HB2.out.size;have h4:=HBMe.out
         rcases List.mem_cons.1 hx with rfl | hx
         ·exact hvN _ hg (List.mem_singleton.2 rfl)
         ·rcases List.mem_cons.1 hx with rfl | hx
          ·omega
          ·rcases List.mem_cons.1 hx with rfl | hx
           ·omega
           ·have h6:=HX.out g hx;omega)).fewer inT)
        have HDX11:=lH ((HDX9.out.mod (HM9.mono inC)).fewer inT);clear HC9 HM9 HNB9 HBX9 HOW9 HOWN9 HMD9 HDX9;obtain ⟨av,cv,hve,-,-⟩:=HOW11.out.val;have HVE:=lH hve;clear hve;have y2:=HBX11.out.cell (i:=2) (v:=v) rfl;have yl:=HBX11.out.lt;obtain ⟨n0,n1,n2,n3,n4,n5,n6,n7,n8,n9,n10,nl⟩:=cells11 HNB11.out
        have hal:=qalloc w11 (.cells #[.int .i64 D.id,.int .i64 D.kind,.bool D.pub,.slice anD D.names.length cnD,.bool D.doubt,.int .i64 D.body.kind,.string D.body.name,.string D.body.more,.int .i64 D.body.num,.int .i64 D.body.den,.slice saD D.body.subs.length csD] 69);have HRB:=lH (CBox.new w11 69 #[.int .i64 D.id,.int .i64 D.kind,.bool D.pub,.slice anD D.names.length cnD,.bool D.doubt,.int .i64 D.body.kind,.string D.body.name,.string D.body.more,.int .i64 D.body.num,.int .i64 D.body.den,.slice saD D.body.subs.length csD])
        have HOA:=lH (HOW11.out.below hal);have HBA:=lH (HBX11.out.below hal);have HDA:=lH (HDX11.out.below hal);have HMA:Hid (Mod [BM] w7 (w11.alloc (.cells #[.int .i64 D.id,.int .i64 D.kind,.bool D.pub,.slice anD D.names.length cnD,.bool D.doubt,.int .i64 D.body.kind,.string D.body.name,.string D.body.more,.int .i64 D.body.num,.int .i64 D.body.den,.slice saD D.body.subs.length csD] 69))):=HMD11.out.trans (Mod.of hal)
        have hsz:w7.heap.size≤(w11.alloc (.cells #[.int .i64 D.id,.int .i64 D.kind,.bool D.pub,.slice anD D.names.length cnD,.bool D.doubt,.int .i64 D.body.kind,.string D.body.name,.string D.body.more,.int .i64 D.body.num,.int .i64 D.body.den,.slice saD D.body.subs.length csD] 69)).heap.size:=HMA.out.size;have hlen:=HLN.out;have HB9:Hid (BM < w7.heap.size):=by show _ < _;have:=HBMe.out;omega
        clear hal HBX11 HOW11 HMD11 HDX11 HNB11
        go_wp2_with (at_builtin;refine wpList_decl (v:=v) (X:=BM :: R :: X) (L:=settleL s kn (m.decls.take i)) (B:=w11.heap.size) (d:=D) (an:=anD) (cn:=cnD) (sa:=saD) (cs:=csD) rfl _ _ rfl rfl HOA.out rfl HRB.out HDA.out (by omega) hsz ?_;rintro v' w' ho7 hm7 ⟨a7,c7,hv7⟩ hb7;have HB7:=lH (HBA.out.mod hm7 (fun hk => by have h1:=HOA.out.ge (by simpa using hk:v.ownBlock = some BM);have h2:=HB9.out;omega));have HM7:Hid (Mod [BM] w7 w'):=HMA.out.after hm7 (fun g hg => HOA.out.ge (by simpa using hg));have k2:=HB7.out.cell (i:=2) (v:=v) rfl;have kf:=HB7.out.frozen 2;have kl:=HB7.out.lt;have HO7:=lH ho7;clear ho7 hm7)
        have hvv:v' = .slice a7 ((settleL s kn (m.decls.take i)).length + 1) c7:=by rw [hv7,List.length_append];rfl
        rw [← hvv];have hRl:R < w7.heap.size:=by have h1:=HSZ.out;have h2:=HB7.out.lt;have h3:=HBM.out;have h4:=HB2.out.size;have h5:=HBMe.out;omega
        have hge:∀ g,v'.ownBlock = some g→g ∉ BM :: R :: X:=fun g hg hx => by
         have h1:=HO7.out.ge hg
         rcases List.mem_cons.1 hx with rfl | hx
         ·have:=HB9.out;omega
         ·rcases List.mem_cons.1 hx with rfl | hx
          ·omega
          ·have h2:=HX.out g hx;have h3:=HSZ.out;omega
        have hL:=HLS.out;refine ⟨⟨i + 1,v',by omega,rfl,HE9,HB7.out.set 2 v',?_,HM7.out.trans ((Mod.refl [BM] w').setCell (by simp) v')⟩,by simp [intOf];omega⟩;show OwnT _ _ _ _ _ _ _ _
        rw [hL];exact HO7.out.mod ((Mod.refl (BM :: R :: X) w').setCell (by simp) v') hge
      ·have hz:(q != 0) = true:=by simp [h0]
       have HE:Hid (settleMErr m s kn = q):=by show _ = _;rw [HEQ4.out,HFE.out h0]
       have HQ:=lH h0;clear HNX HFE h0 HR10;obtain ⟨o0,o1,o2,ol9⟩:=cells3 (Gr.out.below H0W9.out);obtain ⟨fo0,fo1,fo2⟩:=frozen3 (Gr.out.below H0W9.out)
       (try dsimp only)
       repeat (first | go_values | go_skip | go_guarded | go_step | go_upon | go_in)
       (try simp only [Exit.inBlock,Exit.then])
       clear o0 fo0 o1 fo1 o2 fo2 ol9 ;obtain ⟨HC9,HM9⟩:=CBox.three (Gr.out.below H0W9.out) (.string ⟨#[]⟩) (.slice none 0 0) (.slice none 0 0);generalize World.setCell _ ⟨R,2,none⟩ _ = WZ at *;obtain ⟨r0,r1,r2,-⟩:=cells3 HC9;refine bodyPost_ret (by simp [results,Tryz.results34,go_sem,r0,r1,r2];try rfl) rfl ?_;have hdZ:Bw w WZ:=(HWW9.out).trans (HM9.upto (HWW9.out).size (by intro k hk;simp at hk;have:=HSZ.out;omega));exact SettledM.bad HE.out HQ.out hdZ
    ·have hd2:decide ((i:Int) < (m.decls.length:Int)) = false:=decide_eq_false (by omega)
     have hti:m.decls.take i = m.decls:=List.take_of_length_le (by omega);rw [hti] at HN HOW;have HE:Hid (settleMErr m s kn = 0):=by show _ = _;rw [HEQ4.out,HN.out]
     have HOE:=lH (settle_ok HE.out).2.2.2.2;obtain ⟨av,cv,rfl,hav1,hav2⟩:=HOW.out.val;have H0W:=lH h0w;have HWW:=lH hww;have HMU:=lH (HMX.out wr h0w).mod;clear hti HN h0w hww;generalize settleL s kn m.decls = DD at *;obtain ⟨y0,y1,y2,yl⟩:=cells3 HBX.out;obtain ⟨o0,o1,o2,ol9⟩:=cells3 (Gr.out.below H0W.out);obtain ⟨fo0,fo1,fo2⟩:=frozen3 (Gr.out.below H0W.out)
     (try dsimp only)
     repeat (first | go_values | go_skip | go_guarded | go_step | go_upon | go_in)
     (try simp only [Exit.inBlock,Exit.then])
     clear o0 fo0 o1 fo1 o2 fo2 ol9 y0 y1 y2 yl;obtain ⟨HC9,HM9⟩:=CBox.three (Gr.out.below H0W.out) (.string m.label) (.slice au m.uses.length cu) (.slice av DD.length cv);generalize World.setCell _ ⟨R,2,none⟩ _ = WZ at *;obtain ⟨r0,r1,r2,-⟩:=cells3 HC9;refine bodyPost_ret (by simp [results,Tryz.results34,go_sem,r0,r1,r2];try rfl) rfl ?_;have hdZ:Bw w WZ:=HWW.out.trans (HM9.upto HWW.out.size (by intro k hk;simp at hk;have:=HSZ.out;omega));have hmz:Mod (R :: X) wr WZ:=HM9.mono inC;have hown:=(HOW.out.fewer (Y:=R :: X) inT)
     have hge:∀ g,(Value.slice av DD.length cv).ownBlock = some g→g ∉ R :: X:=fun g hg hx => by
      have h1:=HOW.out.ge hg;have h2:=HSZ.out;have h3:=HBM.out;have h4:=HB2.out.size;have h5:=HBMe.out
      rcases List.mem_cons.1 hx with rfl | hx
      ·omega
      ·have h6:=HX.out g hx;omega
     have hrd:=((hown.reads hge).mod hmz).fewer (Y:=X) inT;have hru:=(HMU.out.uses.mod hmz).fewer (Y:=X) inT;refine ⟨au,cu,av,cv,by rw [HE.out,HOE.out];rfl,?_,hdZ⟩;rw [HOE.out];exact ⟨hru,hrd,HMU.out.hu1,HMU.out.hu2,hav1,hav2⟩
end Go.Proofs.YtdpnfkjafhbndaaGreatDoor

