/- The reference's Check of chapter 34. commute.Swap. -/
import Derived.Test.YtdpnfkjafhbndaaGreatDoorCShG
import Derived.Test.YtdpnfkjafhbndaaGreatDoorCSEj
import Derived.Test.YtdpnfkjafhbndaaGreatDoorCSEo
namespace Go.Proofs.YtdpnfkjafhbndaaGreatDoor
open Go.RowKit Go.Shelf
attribute [local go_sem] Oper.semAt_some
theorem reads_declOne {W:World} {d:ODecl} {an:Option Addr} {cn:Nat} {sa:Option Addr} {cs:Nat} (h:DeclIn W d an cn sa cs) :
  Reads (W.alloc (.cells #[.int .i64 d.id,.int .i64 d.kind,.bool d.pub,.slice an d.names.length cn,.bool d.doubt,.int .i64 d.body.kind,.string d.body.name,.string d.body.more,.int .i64 d.body.num,.int .i64 d.body.den,.slice sa d.body.subs.length cs] 69)) [] (declsT [d]) (.slice (some ⟨W.heap.size,0,none⟩) 1 1):=by
 refine Reads.ofRow (l:=[d]) (owns_row (own_decl W W.heap.size (Nat.le_refl _) 69 _ _ _ _ _ _ _ _ _ _ _)) (fun _ b _ => by simp) ?_;rw [List.flatMap_cons,List.flatMap_nil,List.append_nil];exact cells_decl (h.names.below (qalloc _ _)) (h.subs.below (qalloc _ _))
theorem fit_of {e:OEdit} (h:editErr e = 0):FitE e:=by
 unfold editErr at h;split at h
 ·rename_i h1
  split at h
  ·rename_i h2
   unfold fitsB at h2;split at h2
   ·rename_i h3
    exact ⟨h1.1,h1.2,h3.1,h3.2⟩
   ·cases h2
  ·cases h
 ·cases h
def swapB (e f:OEdit):Bool:=(editErr e == 0) && ((editErr f == 0) && indepB e f)
def noEdit:OEdit:=⟨0,⟨#[]⟩,⟨#[]⟩,[],[]⟩
def swapV (e f:OEdit) (ao:Option Addr) (co:Nat) (af:Option Addr) (cf:Nat) (bo:Option Addr) (do':Nat) (bf:Option Addr) (df:Nat):Value:=
 .tuple #[if swapB e f then editV f bo do' bf df else editV noEdit none 0 none 0,if swapB e f then editV e ao co af cf else editV noEdit none 0 none 0,.bool (swapB e f)]
theorem mod_five (w:World) (B:Nat) (v0 v1 v2 v3 v4:Value):Mod [B] w (((((w.setCell ⟨B,0,none⟩ v0).setCell ⟨B,1,none⟩ v1).setCell ⟨B,2,none⟩ v2).setCell ⟨B,3,none⟩ v3).setCell ⟨B,4,none⟩ v4):=by
 have hB:∀ o:Nat,(⟨B,o,none⟩:Addr).block∈[B]:=fun _ => List.mem_singleton.2 rfl;exact ((((((Mod.refl [B] w).setCell (hB 0) v0).setCell (hB 1) v1).setCell (hB 2) v2).setCell (hB 3) v3).setCell (hB 4) v4)
theorem CBox.five {w:World} {B:Nat} {t:TypeId} {a0 a1 a2 a3 a4:Value} (h:CBox w B t #[a0,a1,a2,a3,a4]) (v0 v1 v2 v3 v4:Value) :
  CBox (((((w.setCell ⟨B,0,none⟩ v0).setCell ⟨B,1,none⟩ v1).setCell ⟨B,2,none⟩ v2).setCell ⟨B,3,none⟩ v3).setCell ⟨B,4,none⟩ v4) B t #[v0,v1,v2,v3,v4]:=by
 have h0:CBox _ B t #[v0,a1,a2,a3,a4]:=h.set 0 v0;have h1:CBox _ B t #[v0,v1,a2,a3,a4]:=h0.set 1 v1;have h2:CBox _ B t #[v0,v1,v2,a3,a4]:=h1.set 2 v2;have h3:CBox _ B t #[v0,v1,v2,v3,a4]:=h2.set 3 v3;exact h3.set 4 v4
theorem stored_two {w:World} {B C:Nat} {t:TypeId} {a0 a1 a2 a3 a4 b0 b1 b2 b3 b4:Value} (h:CBox w B t #[a0,a1,a2,a3,a4]) (k:CBox w C t #[b0,b1,b2,b3,b4]) (hne:B≠C) (v0 v1 v2 v3 v4 u0 u1 u2 u3 u4:Value) :
    CBox ((((((((((w.setCell ⟨B,0,none⟩ v0).setCell ⟨B,1,none⟩ v1).setCell ⟨B,2,none⟩ v2).setCell ⟨B,3,none⟩ v3).setCell ⟨B,4,none⟩ v4).setCell ⟨C,0,none⟩ u0).setCell ⟨C,1,none⟩ u1).setCell ⟨C,2,none⟩ u2).setCell ⟨C,3,none⟩ u3).setCell ⟨C,4,none⟩ u4) B t #[v0,v1,v2,v3,v4] ∧
    CBox ((((((((((w.setCell ⟨B,0,none⟩ v0).setCell ⟨B,1,none⟩ v1).setCell ⟨B,2,none⟩ v2).setCell ⟨B,3,none⟩ v3).setCell ⟨B,4,none⟩ v4).setCell ⟨C,0,none⟩ u0).setCell ⟨C,1,none⟩ u1).setCell ⟨C,2,none⟩ u2).setCell ⟨C,3,none⟩ u3).setCell ⟨C,4,none⟩ u4) C t #[u0,u1,u2,u3,u4] ∧
    Mod [B,C] w ((((((((((w.setCell ⟨B,0,none⟩ v0).setCell ⟨B,1,none⟩ v1).setCell ⟨B,2,none⟩ v2).setCell ⟨B,3,none⟩ v3).setCell ⟨B,4,none⟩ v4).setCell ⟨C,0,none⟩ u0).setCell ⟨C,1,none⟩ u1).setCell ⟨C,2,none⟩ u2).setCell ⟨C,3,none⟩ u3).setCell ⟨C,4,none⟩ u4):=by
  have m1:=mod_five w B v0 v1 v2 v3 v4
  have c1:=h.five v0 v1 v2 v3 v4
  have k1:=k.mod m1 (by simp;exact fun e => hne e.symm)
  generalize (((((w.setCell ⟨B,0,none⟩ v0).setCell ⟨B,1,none⟩ v1).setCell ⟨B,2,none⟩ v2).setCell ⟨B,3,none⟩ v3).setCell ⟨B,4,none⟩ v4) = w1 at *
  have m2:=mod_five w1 C u0 u1 u2 u3 u4
  exact ⟨c1.mod m2 (by simpa using hne),k1.five u0 u1 u2 u3 u4,(m1.mono (fun k hk => by simp at hk;subst hk;simp)).trans (m2.mono (fun k hk => by simp at hk;subst hk;simp))⟩
set_option maxRecDepth 100000 in
set_option maxHeartbeats 8000000 in
theorem cSwap_any (e f:OEdit) (ao:Option Addr) (co:Nat) (af:Option Addr) (cf:Nat) (bo:Option Addr) (do':Nat) (bf:Option Addr) (df:Nat) (w:World) (he:EditIn w e ao co af cf) (hf:EditIn w f bo do' bf df) (hse:SmE e) (hsf:SmE f) :
  Calls Tryz.prog 21 #[editV e ao co af cf,editV f bo do' bf df] w fun r w' => r = .returned (swapV e f ao co af cf bo do' bf df)∧Below w.heap.size w w':=by
 have HC1:=lH (fun W (h:Below w.heap.size w W) => eCheck_any e ao co af cf W (he.below h) hse);have HC2:=lH (fun W (h:Below w.heap.size w W) => eCheck_any f bo do' bf df W (hf.below h) hsf);have HC3:=lH (fun (h1:FitE e) (h2:FitE f) W (h:Below w.heap.size w W) => cIndep_any e f ao co af cf bo do' bf df W (he.below h) (hf.below h) h1 h2);have HP:Hid (swapV e f ao co af cf bo do' bf df = .tuple #[if swapB e f then editV f bo do' bf df else editV noEdit none 0 none 0,if swapB e f then editV e ao co af cf else editV noEdit none 0 none 0,.bool (swapB e f)]):=rfl
 have HS:Hid (swapB e f = ((editErr e == 0) && ((editErr f == 0) && indepB e f))):=rfl;have HF1:=lH (fit_of (e:=e));have HF2:=lH (fit_of (e:=f));have HZ:Hid (editV noEdit none 0 none 0 = .agg #[.int .i64 0,.string ⟨#[]⟩,.string ⟨#[]⟩,.slice none 0 0,.slice none 0 0]):=rfl;clear he hf hse hsf
 have g1:CBox ((((w.alloc (.cells #[.int .i64 e.kind,.string e.pack,.string e.text,.slice ao e.old.length co,.slice af e.fresh.length cf] 35)).alloc (.cells #[.int .i64 f.kind,.string f.pack,.string f.text,.slice bo f.old.length do',.slice bf f.fresh.length df] 35)).alloc (.cells #[.int .i64 0,.string ⟨#[]⟩,.string ⟨#[]⟩,.slice none 0 0,.slice none 0 0] 35)).alloc (.cells #[.int .i64 0,.string ⟨#[]⟩,.string ⟨#[]⟩,.slice none 0 0,.slice none 0 0] 35)) w.heap.size 35 #[.int .i64 e.kind,.string e.pack,.string e.text,.slice ao e.old.length co,.slice af e.fresh.length cf]:=(((CBox.new w _ _).alloc _).alloc _).alloc _
 have g2:CBox ((((w.alloc (.cells #[.int .i64 e.kind,.string e.pack,.string e.text,.slice ao e.old.length co,.slice af e.fresh.length cf] 35)).alloc (.cells #[.int .i64 f.kind,.string f.pack,.string f.text,.slice bo f.old.length do',.slice bf f.fresh.length df] 35)).alloc (.cells #[.int .i64 0,.string ⟨#[]⟩,.string ⟨#[]⟩,.slice none 0 0,.slice none 0 0] 35)).alloc (.cells #[.int .i64 0,.string ⟨#[]⟩,.string ⟨#[]⟩,.slice none 0 0,.slice none 0 0] 35)) (w.heap.size + 1) 35 #[.int .i64 f.kind,.string f.pack,.string f.text,.slice bo f.old.length do',.slice bf f.fresh.length df]:=((two_boxes w _ _ _).2.1.alloc _).alloc _
 have g3:CBox ((((w.alloc (.cells #[.int .i64 e.kind,.string e.pack,.string e.text,.slice ao e.old.length co,.slice af e.fresh.length cf] 35)).alloc (.cells #[.int .i64 f.kind,.string f.pack,.string f.text,.slice bo f.old.length do',.slice bf f.fresh.length df] 35)).alloc (.cells #[.int .i64 0,.string ⟨#[]⟩,.string ⟨#[]⟩,.slice none 0 0,.slice none 0 0] 35)).alloc (.cells #[.int .i64 0,.string ⟨#[]⟩,.string ⟨#[]⟩,.slice none 0 0,.slice none 0 0] 35)) (w.heap.size + 1 + 1) 35 #[.int .i64 0,.string ⟨#[]⟩,.string ⟨#[]⟩,.slice none 0 0,.slice none 0 0]:=by
  have q:=(two_boxes ((w.alloc (.cells #[.int .i64 e.kind,.string e.pack,.string e.text,.slice ao e.old.length co,.slice af e.fresh.length cf] 35)).alloc (.cells #[.int .i64 f.kind,.string f.pack,.string f.text,.slice bo f.old.length do',.slice bf f.fresh.length df] 35)) 35 #[.int .i64 0,.string ⟨#[]⟩,.string ⟨#[]⟩,.slice none 0 0,.slice none 0 0] #[.int .i64 0,.string ⟨#[]⟩,.string ⟨#[]⟩,.slice none 0 0,.slice none 0 0]).1
  simpa only [World.size_alloc] using q
 have g4:CBox ((((w.alloc (.cells #[.int .i64 e.kind,.string e.pack,.string e.text,.slice ao e.old.length co,.slice af e.fresh.length cf] 35)).alloc (.cells #[.int .i64 f.kind,.string f.pack,.string f.text,.slice bo f.old.length do',.slice bf f.fresh.length df] 35)).alloc (.cells #[.int .i64 0,.string ⟨#[]⟩,.string ⟨#[]⟩,.slice none 0 0,.slice none 0 0] 35)).alloc (.cells #[.int .i64 0,.string ⟨#[]⟩,.string ⟨#[]⟩,.slice none 0 0,.slice none 0 0] 35)) (w.heap.size + 1 + 1 + 1) 35 #[.int .i64 0,.string ⟨#[]⟩,.string ⟨#[]⟩,.slice none 0 0,.slice none 0 0]:=by
  have q:=(two_boxes ((w.alloc (.cells #[.int .i64 e.kind,.string e.pack,.string e.text,.slice ao e.old.length co,.slice af e.fresh.length cf] 35)).alloc (.cells #[.int .i64 f.kind,.string f.pack,.string f.text,.slice bo f.old.length do',.slice bf f.fresh.length df] 35)) 35 #[.int .i64 0,.string ⟨#[]⟩,.string ⟨#[]⟩,.slice none 0 0,.slice none 0 0] #[.int .i64 0,.string ⟨#[]⟩,.string ⟨#[]⟩,.slice none 0 0,.slice none 0 0]).2.1
  simpa only [World.size_alloc] using q
 have hA:Below w.heap.size w ((((w.alloc (.cells #[.int .i64 e.kind,.string e.pack,.string e.text,.slice ao e.old.length co,.slice af e.fresh.length cf] 35)).alloc (.cells #[.int .i64 f.kind,.string f.pack,.string f.text,.slice bo f.old.length do',.slice bf f.fresh.length df] 35)).alloc (.cells #[.int .i64 0,.string ⟨#[]⟩,.string ⟨#[]⟩,.slice none 0 0,.slice none 0 0] 35)).alloc (.cells #[.int .i64 0,.string ⟨#[]⟩,.string ⟨#[]⟩,.slice none 0 0,.slice none 0 0] 35)):=qtrans (qtrans (qtrans (qalloc _ _) (qalloc _ _)) (qalloc _ _)) (qalloc _ _);unfold editV at *
 generalize swapV e f ao co af cf bo do' bf df = T at *
 generalize swapB e f = sb at *
 go_enter Tryz.func21,Tryz.ntmps21
 go_upto_region 1 with (fail)
 generalize ((((w.alloc (.cells #[.int .i64 e.kind,.string e.pack,.string e.text,.slice ao e.old.length co,.slice af e.fresh.length cf] 35)).alloc (.cells #[.int .i64 f.kind,.string f.pack,.string f.text,.slice bo f.old.length do',.slice bf f.fresh.length df] 35)).alloc (.cells #[.int .i64 0,.string ⟨#[]⟩,.string ⟨#[]⟩,.slice none 0 0,.slice none 0 0] 35)).alloc (.cells #[.int .i64 0,.string ⟨#[]⟩,.string ⟨#[]⟩,.slice none 0 0,.slice none 0 0] 35)) = W0 at *;have G1:=lH g1;have G2:=lH g2;have G3:=lH g3;have G4:=lH g4;clear g1 g2 g3 g4
 go_cut [20] from 7 to 24 (fun v wx => v = .bool (!sb)∧Below W0.heap.size W0 wx)
 case first =>
  have e0:=G1.out.cell (i:=0) (v:=.int .i64 e.kind) rfl;have e1:=G1.out.cell (i:=1) (v:=.string e.pack) rfl;have e2:=G1.out.cell (i:=2) (v:=.string e.text) rfl;have e3:=G1.out.cell (i:=3) (v:=.slice ao e.old.length co) rfl;have e4:=G1.out.cell (i:=4) (v:=.slice af e.fresh.length cf) rfl;have el:=G1.out.lt;go_wp2_with (fail)
  refine (HC1.out _ hA).mono ?_;rintro r w1 ⟨rfl,hb1⟩
  by_cases hk1:editErr e = 0
  rotate_left
  ·have q1:(editErr e != 0) = true:=by simp [hk1]
   have HSF:Hid (sb = false):=by show _ = _;rw [HS.out,show (editErr e == 0) = false from beq_eq_false_iff_ne.2 hk1];rfl
   clear hk1 HS HF1 HF2;generalize editErr e = k1 at *;go_wp2;go_meet
   case rel => exact ⟨by rw [HSF.out];rfl,hb1⟩
  have q1:(editErr e != 0) = false:=by rw [hk1];rfl
  have hw1:=qtrans hA hb1;have f0:=(G2.out.below hb1).cell (i:=0) (v:=.int .i64 f.kind) rfl;have f1:=(G2.out.below hb1).cell (i:=1) (v:=.string f.pack) rfl;have f2:=(G2.out.below hb1).cell (i:=2) (v:=.string f.text) rfl;have f3:=(G2.out.below hb1).cell (i:=3) (v:=.slice bo f.old.length do') rfl;have f4:=(G2.out.below hb1).cell (i:=4) (v:=.slice bf f.fresh.length df) rfl;have fl:=(G2.out.below hb1).lt;have HK1:=lH hk1;clear hk1 e0 e1 e2 e3 e4 el;go_wp2_with (fail)
  refine (HC2.out _ hw1).mono ?_;rintro r w2 ⟨rfl,hb2⟩;have hb12:=qtrans hb1 hb2;clear f0 f1 f2 f3 f4 fl
  by_cases hk2:editErr f = 0
  rotate_left
  ·have q2:(editErr f != 0) = true:=by simp [hk2]
   have HSF:Hid (sb = false):=by show _ = _;rw [HS.out,show (editErr f == 0) = false from beq_eq_false_iff_ne.2 hk2,Bool.false_and,Bool.and_false]
   clear hk2 HS HF1 HF2;generalize editErr f = k2 at *;go_wp2;go_meet
   case rel => exact ⟨by rw [HSF.out];rfl,hb12⟩
  have q2:(editErr f != 0) = false:=by rw [hk2];rfl
  have hw2:=qtrans hA hb12;have HI:=lH (HC3.out (HF1.out HK1.out) (HF2.out hk2) w2 hw2);have HSF:Hid (sb = indepB e f):=by show _ = _;rw [HS.out,HK1.out,hk2];rfl
  have e0:=(G1.out.below hb12).cell (i:=0) (v:=.int .i64 e.kind) rfl;have e1:=(G1.out.below hb12).cell (i:=1) (v:=.string e.pack) rfl;have e2:=(G1.out.below hb12).cell (i:=2) (v:=.string e.text) rfl;have e3:=(G1.out.below hb12).cell (i:=3) (v:=.slice ao e.old.length co) rfl;have e4:=(G1.out.below hb12).cell (i:=4) (v:=.slice af e.fresh.length cf) rfl;have el:=(G1.out.below hb12).lt;have f0:=(G2.out.below hb12).cell (i:=0) (v:=.int .i64 f.kind) rfl;have f1:=(G2.out.below hb12).cell (i:=1) (v:=.string f.pack) rfl
  have f2:=(G2.out.below hb12).cell (i:=2) (v:=.string f.text) rfl;have f3:=(G2.out.below hb12).cell (i:=3) (v:=.slice bo f.old.length do') rfl;have f4:=(G2.out.below hb12).cell (i:=4) (v:=.slice bf f.fresh.length df) rfl;have fl:=(G2.out.below hb12).lt;clear hk2 HS HF1 HF2 HK1 HC1 HC2 HC3;generalize indepB e f = ib at *;go_wp2_with (fail)
  refine HI.out.mono ?_;rintro r w3 ⟨rfl,hb3⟩;clear e0 e1 e2 e3 e4 el f0 f1 f2 f3 f4 fl;go_wp2;go_meet
  case rel => exact ⟨by rw [HSF.out],qtrans hb12 hb3⟩
 case rest =>
 obtain ⟨rfl,hb⟩:=hcut;generalize wc = w1 at *;have hbw:=qtrans hA hb;have B3:=G3.out.below hb;have B4:=G4.out.below hb;have B1:=G1.out.below hb;have B2:=G2.out.below hb;have e0:=B1.cell (i:=0) (v:=.int .i64 e.kind) rfl;have e1:=B1.cell (i:=1) (v:=.string e.pack) rfl;have e2:=B1.cell (i:=2) (v:=.string e.text) rfl;have e3:=B1.cell (i:=3) (v:=.slice ao e.old.length co) rfl;have e4:=B1.cell (i:=4) (v:=.slice af e.fresh.length cf) rfl;have el:=B1.lt;have f0:=B2.cell (i:=0) (v:=.int .i64 f.kind) rfl
 have f1:=B2.cell (i:=1) (v:=.string f.pack) rfl;have f2:=B2.cell (i:=2) (v:=.string f.text) rfl;have f3:=B2.cell (i:=3) (v:=.slice bo f.old.length do') rfl;have f4:=B2.cell (i:=4) (v:=.slice bf f.fresh.length df) rfl;have fl:=B2.lt;have r0:=B3.cell (i:=0) (v:=.int .i64 0) rfl;have s0:=B4.cell (i:=0) (v:=.int .i64 0) rfl;have u0:=B3.frozen 0;have v0:=B4.frozen 0;have r1:=B3.cell (i:=1) (v:=.string ⟨#[]⟩) rfl;have s1:=B4.cell (i:=1) (v:=.string ⟨#[]⟩) rfl;have u1:=B3.frozen 1;have v1:=B4.frozen 1
 have r2:=B3.cell (i:=2) (v:=.string ⟨#[]⟩) rfl;have s2:=B4.cell (i:=2) (v:=.string ⟨#[]⟩) rfl;have u2:=B3.frozen 2;have v2:=B4.frozen 2;have r3:=B3.cell (i:=3) (v:=.slice none 0 0) rfl;have s3:=B4.cell (i:=3) (v:=.slice none 0 0) rfl;have u3:=B3.frozen 3;have v3:=B4.frozen 3;have r4:=B3.cell (i:=4) (v:=.slice none 0 0) rfl;have s4:=B4.cell (i:=4) (v:=.slice none 0 0) rfl;have u4:=B3.frozen 4;have v4:=B4.frozen 4;have rl:=B3.lt;have sl:=B4.lt
 have HB3:=lH B3;have HB4:=lH B4;clear B1 B2 B3 B4 G1 G2 G3 G4 HC1 HC2 HC3 HF1 HF2 HS hb hA;have HBW:=lH hbw;have hsz:=hbw.size;clear hbw
 cases sb with
 | false =>
  go_wp2;obtain ⟨c3,c4,hm⟩:=stored_two HB3.out HB4.out (by omega) (.int .i64 0) (.string ⟨#[]⟩) (.string ⟨#[]⟩) (.slice none 0 0) (.slice none 0 0) (.int .i64 0) (.string ⟨#[]⟩) (.string ⟨#[]⟩) (.slice none 0 0) (.slice none 0 0);have HM:=lH hm;have HC3:=lH c3;have HC4:=lH c4;clear hm c3 c4;clear r0 s0 u0 v0 e0 f0 r1 s1 u1 v1 e1 f1 r2 s2 u2 v2 e2 f2 r3 s3 u3 v3 e3 f3 r4 s4 u4 v4 e4 f4 rl sl el fl
  generalize ((((((((((w1.setCell ⟨w.heap.size + 1 + 1,0,none⟩ (.int .i64 0)).setCell ⟨w.heap.size + 1 + 1,1,none⟩ (.string ⟨#[]⟩)).setCell ⟨w.heap.size + 1 + 1,2,none⟩ (.string ⟨#[]⟩)).setCell ⟨w.heap.size + 1 + 1,3,none⟩ (.slice none 0 0)).setCell ⟨w.heap.size + 1 + 1,4,none⟩ (.slice none 0 0)).setCell ⟨w.heap.size + 1 + 1 + 1,0,none⟩ (.int .i64 0)).setCell ⟨w.heap.size + 1 + 1 + 1,1,none⟩ (.string ⟨#[]⟩)).setCell ⟨w.heap.size + 1 + 1 + 1,2,none⟩ (.string ⟨#[]⟩)).setCell ⟨w.heap.size + 1 + 1 + 1,3,none⟩ (.slice none 0 0)).setCell ⟨w.heap.size + 1 + 1 + 1,4,none⟩ (.slice none 0 0)) = W2 at *
  have r0:=HC3.out.cell (i:=0) (v:=.int .i64 0) rfl;have s0:=HC4.out.cell (i:=0) (v:=.int .i64 0) rfl;have r1:=HC3.out.cell (i:=1) (v:=.string ⟨#[]⟩) rfl;have s1:=HC4.out.cell (i:=1) (v:=.string ⟨#[]⟩) rfl;have r2:=HC3.out.cell (i:=2) (v:=.string ⟨#[]⟩) rfl;have s2:=HC4.out.cell (i:=2) (v:=.string ⟨#[]⟩) rfl;have r3:=HC3.out.cell (i:=3) (v:=.slice none 0 0) rfl;have s3:=HC4.out.cell (i:=3) (v:=.slice none 0 0) rfl;have r4:=HC3.out.cell (i:=4) (v:=.slice none 0 0) rfl;have s4:=HC4.out.cell (i:=4) (v:=.slice none 0 0) rfl
  have rl:=HC3.out.lt;have sl:=HC4.out.lt
  (try simp only [Exit.inBlock,Exit.then])
  refine bodyPost_ret (by simp [results,Tryz.results21,go_sem,r0,r1,r2,r3,r4,s0,s1,s2,s3,s4];try rfl) rfl ?_;exact ⟨by rw [HP.out,HZ.out];rfl,HBW.out.trans (HM.out.upto hsz (by intro k hk;simp at hk;omega))⟩
 | true =>
  go_upto_region 3 with (fail)
  go_region
  all_goals go_wp2
  all_goals clear r0 s0 u0 v0 e0 f0 r1 s1 u1 v1 e1 f1 r2 s2 u2 v2 e2 f2 r3 s3 u3 v3 e3 f3 r4 s4 u4 v4 e4 f4 rl sl el fl
  all_goals (
   obtain ⟨c3,c4,hm⟩:=stored_two HB3.out HB4.out (by omega) (.int .i64 f.kind) (.string f.pack) (.string f.text) (.slice bo f.old.length do') (.slice bf f.fresh.length df) (.int .i64 e.kind) (.string e.pack) (.string e.text) (.slice ao e.old.length co) (.slice af e.fresh.length cf);have c3:CBox _ _ _ _:=c3.below (Mod.refl [] _).drew.below;have c4:CBox _ _ _ _:=c4.below (Mod.refl [] _).drew.below;have hm:=hm.drew;have HM:=lH hm;have HC3:=lH c3;have HC4:=lH c4;clear hm c3 c4
   generalize ((((((((((w1.setCell ⟨w.heap.size + 1 + 1,0,none⟩ (.int .i64 f.kind)).setCell ⟨w.heap.size + 1 + 1,1,none⟩ (.string f.pack)).setCell ⟨w.heap.size + 1 + 1,2,none⟩ (.string f.text)).setCell ⟨w.heap.size + 1 + 1,3,none⟩ (.slice bo f.old.length do')).setCell ⟨w.heap.size + 1 + 1,4,none⟩ (.slice bf f.fresh.length df)).setCell ⟨w.heap.size + 1 + 1 + 1,0,none⟩ (.int .i64 e.kind)).setCell ⟨w.heap.size + 1 + 1 + 1,1,none⟩ (.string e.pack)).setCell ⟨w.heap.size + 1 + 1 + 1,2,none⟩ (.string e.text)).setCell ⟨w.heap.size + 1 + 1 + 1,3,none⟩ (.slice ao e.old.length co)).setCell ⟨w.heap.size + 1 + 1 + 1,4,none⟩ (.slice af e.fresh.length cf)).drew = W2 at *
   have r0:=HC3.out.cell (i:=0) (v:=.int .i64 f.kind) rfl;have s0:=HC4.out.cell (i:=0) (v:=.int .i64 e.kind) rfl;have r1:=HC3.out.cell (i:=1) (v:=.string f.pack) rfl;have s1:=HC4.out.cell (i:=1) (v:=.string e.pack) rfl;have r2:=HC3.out.cell (i:=2) (v:=.string f.text) rfl;have s2:=HC4.out.cell (i:=2) (v:=.string e.text) rfl;have r3:=HC3.out.cell (i:=3) (v:=.slice bo f.old.length do') rfl;have s3:=HC4.out.cell (i:=3) (v:=.slice ao e.old.length co) rfl;have r4:=HC3.out.cell (i:=4) (v:=.slice bf f.fresh.length df) rfl
   have s4:=HC4.out.cell (i:=4) (v:=.slice af e.fresh.length cf) rfl;have rl:=HC3.out.lt;have sl:=HC4.out.lt
   (try simp only [Exit.inBlock,Exit.then])
   refine bodyPost_ret (by simp [results,Tryz.results21,go_sem,r0,r1,r2,r3,r4,s0,s1,s2,s3,s4];try rfl) rfl ?_
   exact ⟨by rw [HP.out];rfl,HBW.out.trans (HM.out.upto hsz (by intro k hk;simp at hk;omega))⟩)
end Go.Proofs.YtdpnfkjafhbndaaGreatDoor

