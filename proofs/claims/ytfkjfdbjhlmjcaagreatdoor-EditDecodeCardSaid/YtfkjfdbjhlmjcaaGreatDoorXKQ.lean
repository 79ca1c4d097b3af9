/- The reference's reader of edits: -/
import Derived.Test.YtfkjfdbjhlmjcaaGreatDoorXKL
import Derived.Test.YtfkjfdbjhlmjcaaGreatDoorXKI
set_option maxRecDepth 100000
set_option maxHeartbeats 16000000
namespace Go.Proofs.YtfkjfdbjhlmjcaaGreatDoor
open Go.RowKit Go.Shelf
attribute [local go_sem] Oper.semAt_some
def SqV (s:Sq):Value:=.agg #[.string ⟨s.rest.toArray⟩,.int .i64 s.left,.bool s.bad]
theorem zAe {C E:Nat} (h:E≠C:=by omega):E∉[C]:=zAf h
theorem CBox.modh {w w':World} {B C:Nat} {t:TypeId} {xs:Array Value} (h:CBox w B t xs) (m:Mod [C] w w') (hx:B≠C:=by omega):Hid (CBox w' B t xs):=CBox.mod h m (zAf hx)
theorem zAm {w W W':World} {R C:Nat} (h:Bw w W) (m:Mod [C] W W') (hw:Hid (w.heap.size=R)) (hc:R≤C:=by omega):Hid (Bw w W'):=
 h.trans (m.upto h.size (fun g hg=>by rw [List.mem_singleton.1 hg,hw.out];exact hc))
theorem CBox.threes {w:World} {B:Nat} {t:TypeId} {a0 a1 a2:Value} (h:CBox w B t #[a0,a1,a2]) (v0 v1 v2:Value) :
  CBox (((w.setCell ⟨B,0,none⟩ v0).setCell ⟨B,1,none⟩ v1).setCell ⟨B,2,none⟩ v2) B t #[v0,v1,v2]∧Mod [B] w (((w.setCell ⟨B,0,none⟩ v0).setCell ⟨B,1,none⟩ v1).setCell ⟨B,2,none⟩ v2):=by
 have h0:CBox _ B t #[v0,a1,a2]:=h.set 0 v0;have h1:CBox _ B t #[v0,v1,a2]:=h0.set 1 v1;have hB:B∈[B]:=List.mem_singleton.2 rfl;exact ⟨h1.set 2 v2,(((Mod.refl [B] w).setCell (p:=⟨B,0,none⟩) hB v0).setCell (p:=⟨B,1,none⟩) hB v1).setCell (p:=⟨B,2,none⟩) hB v2⟩
theorem zBl (s:Sq) (w:World) (hs:s.rest.length≤1000000) :
  Calls Tryz.prog 64 #[SqV s] w fun e w'=>e=.returned (.tuple #[.int .i64 (qdN s).1,SqV (qdN s).2])∧Bw w w':=by
 have HCA:=lH (zJ ⟨s.rest.toArray⟩ (by rw [zAt s.rest];exact hs));rw [yFc s.rest] at HCA;have HQ:Hid (qdN s=((((getI s.rest).1:Nat):Int),⟨s.rest.drop (getI s.rest).2.1,s.left,s.bad || (getI s.rest).2.2 != 0⟩)):=rfl;have hsz:(getI s.rest).2.1≤s.rest.length:=zHn s.rest;generalize qdN s=Q at *;have HX:=lH (zOv s.rest);have hS:=zAt s.rest;generalize hG:getI s.rest=G at *;obtain ⟨n,k,E⟩:=G;simp only at HCA HQ hsz
 clear hG;obtain ⟨rest,left,bad⟩:=s;simp only at *
 obtain ⟨S,hSe⟩:∃S:ByteArray,S=⟨rest.toArray⟩:=⟨_,rfl⟩;unfold SqV;simp only
 rw [←hSe] at hS HCA HX ⊢;obtain ⟨S2,hS2⟩:∃S2:ByteArray,S2=⟨(rest.drop k).toArray⟩:=⟨_,rfl⟩;have hx2:S.extract k S.size=S2:=by rw [hS2];exact HX.o k
 have hkS:(k:Int)≤(S.size:Int):=by omega
 have hkN:k≤S.size:=by omega
 obtain ⟨b2,hb2⟩:∃b2,(bad || E != 0)=b2:=⟨_,rfl⟩;have HQ2:Hid (Q=(((n:Nat):Int),⟨rest.drop k,left,b2⟩)):=by show _=_;rw [←hb2];exact HQ.o
 have HS2:=lH hS2;have HBB:=lH hb2;have h1:=zAa w (.cells #[.string S,.int .i64 left,.bool bad] 103);have h2:=zAa (w.alloc (.cells #[.string S,.int .i64 left,.bool bad] 103)) (.cells #[.string ⟨#[]⟩,.int .i64 0,.bool false] 103);have hB:CBox ((w.alloc (.cells #[.string S,.int .i64 left,.bool bad] 103)).alloc (.cells #[.string ⟨#[]⟩,.int .i64 0,.bool false] 103)) w.heap.size 103 #[.string S,.int .i64 left,.bool bad]:=CBox.below (CBox.new w 103 #[.string S,.int .i64 left,.bool bad]) h2
 have hR:CBox ((w.alloc (.cells #[.string S,.int .i64 left,.bool bad] 103)).alloc (.cells #[.string ⟨#[]⟩,.int .i64 0,.bool false] 103)) (w.heap.size+1) 103 #[.string ⟨#[]⟩,.int .i64 0,.bool false]:=by
  have:=CBox.new (w.alloc (.cells #[.string S,.int .i64 left,.bool bad] 103)) 103 #[.string ⟨#[]⟩,.int .i64 0,.bool false];rwa [World.size_alloc] at this
 have HB0:=lH (zA h1 h2);clear h1 h2 HX HQ hb2 hS2 hS hs hSe
 go_enter Tryz.func64,Tryz.ntmps64
 go_upto_region 1 with (fail)
 generalize (w.alloc (.cells #[.string S,.int .i64 left,.bool bad] 103)).alloc (.cells #[.string ⟨#[]⟩,.int .i64 0,.bool false] 103)=w0 at *;obtain ⟨B,hBe⟩:∃B,w.heap.size=B:=⟨_,rfl⟩;rw [hBe] at hB hR ⊢;have HWB:Hid (w.heap.size=B):=hBe;have HB:=lH hB;have HR:=lH hR;clear hB hR hBe;have x0:=HB.o.cell (i:=0) (v:=.string S) rfl;have x2:=HB.o.cell (i:=2) (v:=.bool bad) rfl;have f0:=HB.o.frozen 0;have f2:=HB.o.frozen 2;have xl:=HB.o.lt;go_wp2_with (fail)
 refine (HCA.o _).mono ?_;rintro e w1 ⟨rfl,rfl⟩;clear HCA;go_upto_region 2 with (fail)
 cases bad with
 | true=>
  have e2:b2=true:=by rw [←HBB.o];rfl
  subst e2;go_upto_region 4 with (fail)
  clear x0 x2 f0 f2 xl;have hB3:CBox ((w0.setCell ⟨B,2,none⟩ (.bool true)).setCell ⟨B,0,none⟩ (.string S2)) B 103 #[.string S2,.int .i64 left,.bool true]:=(HB.o.set 2 _).set 0 _;have hM3:Mod [B] w0 ((w0.setCell ⟨B,2,none⟩ (.bool true)).setCell ⟨B,0,none⟩ (.string S2)):=((Mod.refl [B] w0).setCell (p:=⟨B,2,none⟩) (List.mem_singleton.2 rfl) _).setCell (p:=⟨B,0,none⟩) (List.mem_singleton.2 rfl) _;generalize World.setCell _ ⟨B,0,none⟩ _=w3 at *
  have hR3:=CBox.mod HR.o hM3 (by first|(simp;done)|(simp;omega)|(intro h;have:=List.mem_singleton.1 h;omega));have HB3:=lH (HB0.o.trans (hM3.upto HB0.o.size (fun g hg=>by rw [List.mem_singleton.1 hg,HWB.o];omega)));obtain ⟨b0,b1,b9,bl⟩:=zAh hB3;have HR4:=lH hR3;obtain ⟨r0,r1,r2,rl⟩:=zAh HR4.o;obtain ⟨g0,g1,g2⟩:=zAu HR4.o;clear hB3 hM3 hR3 HB HR HB0
  go_region
  all_goals go_wp2
  all_goals clear r0 r1 r2 g0 g1 g2 rl b0 b1 b9 bl
  all_goals (
   have hP:CBox (((w3.setCell ⟨B+1,0,none⟩ (.string S2)).setCell ⟨B+1,1,none⟩ (.int .i64 left)).setCell ⟨B+1,2,none⟩ (.bool true)) (B+1) 103 #[.string S2,.int .i64 left,.bool true]:=((HR4.o.set 0 _).set 1 _).set 2 _;have hP:CBox (((w3.setCell ⟨B+1,0,none⟩ (.string S2)).setCell ⟨B+1,1,none⟩ (.int .i64 left)).setCell ⟨B+1,2,none⟩ (.bool true)).drew (B+1) 103 #[.string S2,.int .i64 left,.bool true]:=CBox.below hP (Mod.refl [] _).drew.below
   have hM:Mod [B+1] w3 (((w3.setCell ⟨B+1,0,none⟩ (.string S2)).setCell ⟨B+1,1,none⟩ (.int .i64 left)).setCell ⟨B+1,2,none⟩ (.bool true)).drew:=((((Mod.refl [B+1] w3).setCell (p:=⟨B+1,0,none⟩) (List.mem_singleton.2 rfl) _).setCell (p:=⟨B+1,1,none⟩) (List.mem_singleton.2 rfl) _).setCell (p:=⟨B+1,2,none⟩) (List.mem_singleton.2 rfl) _).drew;obtain ⟨r0,r1,r2,-⟩:=zAh hP
   (try simp only [Exit.inBlock,Exit.then])
   refine bodyPost_ret (by simp [results,Tryz.results64,go_sem,r0,r1,r2];try rfl) rfl ?_;refine ⟨by rw [HQ2.o,HS2.o],?_⟩;have hz:=HB3.o.trans (hM.upto HB3.o.size (fun g hg=>by rw [List.mem_singleton.1 hg,HWB.o];omega))
   first|exact hz|(rw [HWB.o] at hz;exact hz))
 | false=>
  by_cases h0:E=0
  ·have q1:(E != 0)=false:=by rw [h0];rfl
   have e2:b2=false:=by rw [←HBB.o,h0];rfl
   subst e2;clear h0;go_upto_region 4 with (fail)
   clear x0 x2 f0 f2 xl;have hB3:CBox ((w0.setCell ⟨B,2,none⟩ (.bool false)).setCell ⟨B,0,none⟩ (.string S2)) B 103 #[.string S2,.int .i64 left,.bool false]:=(HB.o.set 2 _).set 0 _;have hM3:Mod [B] w0 ((w0.setCell ⟨B,2,none⟩ (.bool false)).setCell ⟨B,0,none⟩ (.string S2)):=((Mod.refl [B] w0).setCell (p:=⟨B,2,none⟩) (List.mem_singleton.2 rfl) _).setCell (p:=⟨B,0,none⟩) (List.mem_singleton.2 rfl) _;generalize World.setCell _ ⟨B,0,none⟩ _=w3 at *
   have hR3:=CBox.mod HR.o hM3 (by first|(simp;done)|(simp;omega)|(intro h;have:=List.mem_singleton.1 h;omega));have HB3:=lH (HB0.o.trans (hM3.upto HB0.o.size (fun g hg=>by rw [List.mem_singleton.1 hg,HWB.o];omega)));obtain ⟨b0,b1,b9,bl⟩:=zAh hB3;have HR4:=lH hR3;obtain ⟨r0,r1,r2,rl⟩:=zAh HR4.o;obtain ⟨g0,g1,g2⟩:=zAu HR4.o;clear hB3 hM3 hR3 HB HR HB0
   go_region
   all_goals go_wp2
   all_goals clear r0 r1 r2 g0 g1 g2 rl b0 b1 b9 bl
   all_goals (
    have hP:CBox (((w3.setCell ⟨B+1,0,none⟩ (.string S2)).setCell ⟨B+1,1,none⟩ (.int .i64 left)).setCell ⟨B+1,2,none⟩ (.bool false)) (B+1) 103 #[.string S2,.int .i64 left,.bool false]:=((HR4.o.set 0 _).set 1 _).set 2 _;have hP:CBox (((w3.setCell ⟨B+1,0,none⟩ (.string S2)).setCell ⟨B+1,1,none⟩ (.int .i64 left)).setCell ⟨B+1,2,none⟩ (.bool false)).drew (B+1) 103 #[.string S2,.int .i64 left,.bool false]:=CBox.below hP (Mod.refl [] _).drew.below
    have hM:Mod [B+1] w3 (((w3.setCell ⟨B+1,0,none⟩ (.string S2)).setCell ⟨B+1,1,none⟩ (.int .i64 left)).setCell ⟨B+1,2,none⟩ (.bool false)).drew:=((((Mod.refl [B+1] w3).setCell (p:=⟨B+1,0,none⟩) (List.mem_singleton.2 rfl) _).setCell (p:=⟨B+1,1,none⟩) (List.mem_singleton.2 rfl) _).setCell (p:=⟨B+1,2,none⟩) (List.mem_singleton.2 rfl) _).drew;obtain ⟨r0,r1,r2,-⟩:=zAh hP
    (try simp only [Exit.inBlock,Exit.then])
    refine bodyPost_ret (by simp [results,Tryz.results64,go_sem,r0,r1,r2];try rfl) rfl ?_;refine ⟨by rw [HQ2.o,HS2.o],?_⟩;have hz:=HB3.o.trans (hM.upto HB3.o.size (fun g hg=>by rw [List.mem_singleton.1 hg,HWB.o];omega))
    first|exact hz|(rw [HWB.o] at hz;exact hz))
  ·have q1:(E != 0)=true:=by simp [h0]
   have e2:b2=true:=by rw [←HBB.o,q1];rfl
   subst e2;clear h0;go_upto_region 4 with (fail)
   clear x0 x2 f0 f2 xl;have hB3:CBox ((w0.setCell ⟨B,2,none⟩ (.bool true)).setCell ⟨B,0,none⟩ (.string S2)) B 103 #[.string S2,.int .i64 left,.bool true]:=(HB.o.set 2 _).set 0 _;have hM3:Mod [B] w0 ((w0.setCell ⟨B,2,none⟩ (.bool true)).setCell ⟨B,0,none⟩ (.string S2)):=((Mod.refl [B] w0).setCell (p:=⟨B,2,none⟩) (List.mem_singleton.2 rfl) _).setCell (p:=⟨B,0,none⟩) (List.mem_singleton.2 rfl) _;generalize World.setCell _ ⟨B,0,none⟩ _=w3 at *
   have hR3:=CBox.mod HR.o hM3 (by first|(simp;done)|(simp;omega)|(intro h;have:=List.mem_singleton.1 h;omega));have HB3:=lH (HB0.o.trans (hM3.upto HB0.o.size (fun g hg=>by rw [List.mem_singleton.1 hg,HWB.o];omega)));obtain ⟨b0,b1,b9,bl⟩:=zAh hB3;have HR4:=lH hR3;obtain ⟨r0,r1,r2,rl⟩:=zAh HR4.o;obtain ⟨g0,g1,g2⟩:=zAu HR4.o;clear hB3 hM3 hR3 HB HR HB0
   go_region
   all_goals go_wp2
   all_goals clear r0 r1 r2 g0 g1 g2 rl b0 b1 b9 bl
   all_goals (
    have hP:CBox (((w3.setCell ⟨B+1,0,none⟩ (.string S2)).setCell ⟨B+1,1,none⟩ (.int .i64 left)).setCell ⟨B+1,2,none⟩ (.bool true)) (B+1) 103 #[.string S2,.int .i64 left,.bool true]:=((HR4.o.set 0 _).set 1 _).set 2 _;have hP:CBox (((w3.setCell ⟨B+1,0,none⟩ (.string S2)).setCell ⟨B+1,1,none⟩ (.int .i64 left)).setCell ⟨B+1,2,none⟩ (.bool true)).drew (B+1) 103 #[.string S2,.int .i64 left,.bool true]:=CBox.below hP (Mod.refl [] _).drew.below
    have hM:Mod [B+1] w3 (((w3.setCell ⟨B+1,0,none⟩ (.string S2)).setCell ⟨B+1,1,none⟩ (.int .i64 left)).setCell ⟨B+1,2,none⟩ (.bool true)).drew:=((((Mod.refl [B+1] w3).setCell (p:=⟨B+1,0,none⟩) (List.mem_singleton.2 rfl) _).setCell (p:=⟨B+1,1,none⟩) (List.mem_singleton.2 rfl) _).setCell (p:=⟨B+1,2,none⟩) (List.mem_singleton.2 rfl) _).drew;obtain ⟨r0,r1,r2,-⟩:=zAh hP
    (try simp only [Exit.inBlock,Exit.then])
    refine bodyPost_ret (by simp [results,Tryz.results64,go_sem,r0,r1,r2];try rfl) rfl ?_;refine ⟨by rw [HQ2.o,HS2.o],?_⟩;have hz:=HB3.o.trans (hM.upto HB3.o.size (fun g hg=>by rw [List.mem_singleton.1 hg,HWB.o];omega))
    first|exact hz|(rw [HWB.o] at hz;exact hz))
theorem zEi (s:Sq) (w:World) (hs:s.rest.length≤1000000) :
  Calls Tryz.prog 65 #[SqV s] w fun e w'=>e=.returned (.tuple #[.string (qdT s).1,SqV (qdT s).2])∧Bw w w':=by
 have HCA:=lH (zOu ⟨s.rest.toArray⟩ (by rw [zAt s.rest];exact hs));rw [yFd s.rest] at HCA;have HQ:Hid (qdT s=(⟨(getT s.rest).1.toArray⟩,⟨s.rest.drop (getT s.rest).2.1,s.left,s.bad || (getT s.rest).2.2 != 0⟩)):=rfl;have hsz:(getT s.rest).2.1≤s.rest.length:=zQt s.rest;generalize qdT s=Q at *;have HX:=lH (zOv s.rest);have hS:=zAt s.rest;generalize hG:getT s.rest=G at *;obtain ⟨n,k,E⟩:=G;simp only at HCA HQ hsz
 clear hG;obtain ⟨rest,left,bad⟩:=s;simp only at *
 obtain ⟨S,hSe⟩:∃S:ByteArray,S=⟨rest.toArray⟩:=⟨_,rfl⟩;unfold SqV;simp only
 rw [←hSe] at hS HCA HX ⊢;obtain ⟨S2,hS2⟩:∃S2:ByteArray,S2=⟨(rest.drop k).toArray⟩:=⟨_,rfl⟩;have hx2:S.extract k S.size=S2:=by rw [hS2];exact HX.o k
 have hkS:(k:Int)≤(S.size:Int):=by omega
 have hkN:k≤S.size:=by omega
 obtain ⟨b2,hb2⟩:∃b2,(bad || E != 0)=b2:=⟨_,rfl⟩;have HQ2:Hid (Q=(⟨n.toArray⟩,⟨rest.drop k,left,b2⟩)):=by show _=_;rw [←hb2];exact HQ.o
 have HS2:=lH hS2;have HBB:=lH hb2;have h1:=zAa w (.cells #[.string S,.int .i64 left,.bool bad] 103);have h2:=zAa (w.alloc (.cells #[.string S,.int .i64 left,.bool bad] 103)) (.cells #[.string ⟨#[]⟩,.int .i64 0,.bool false] 103);have hB:CBox ((w.alloc (.cells #[.string S,.int .i64 left,.bool bad] 103)).alloc (.cells #[.string ⟨#[]⟩,.int .i64 0,.bool false] 103)) w.heap.size 103 #[.string S,.int .i64 left,.bool bad]:=CBox.below (CBox.new w 103 #[.string S,.int .i64 left,.bool bad]) h2
 have hR:CBox ((w.alloc (.cells #[.string S,.int .i64 left,.bool bad] 103)).alloc (.cells #[.string ⟨#[]⟩,.int .i64 0,.bool false] 103)) (w.heap.size+1) 103 #[.string ⟨#[]⟩,.int .i64 0,.bool false]:=by
  have:=CBox.new (w.alloc (.cells #[.string S,.int .i64 left,.bool bad] 103)) 103 #[.string ⟨#[]⟩,.int .i64 0,.bool false];rwa [World.size_alloc] at this
 have HB0:=lH (zA h1 h2);clear h1 h2 HX HQ hb2 hS2 hS hs hSe
 go_enter Tryz.func65,Tryz.ntmps65
 go_upto_region 1 with (fail)
 generalize (w.alloc (.cells #[.string S,.int .i64 left,.bool bad] 103)).alloc (.cells #[.string ⟨#[]⟩,.int .i64 0,.bool false] 103)=w0 at *;obtain ⟨B,hBe⟩:∃B,w.heap.size=B:=⟨_,rfl⟩;rw [hBe] at hB hR ⊢;have HWB:Hid (w.heap.size=B):=hBe;have HB:=lH hB;have HR:=lH hR;clear hB hR hBe;have x0:=HB.o.cell (i:=0) (v:=.string S) rfl;have x2:=HB.o.cell (i:=2) (v:=.bool bad) rfl;have f0:=HB.o.frozen 0;have f2:=HB.o.frozen 2;have xl:=HB.o.lt;go_wp2_with (fail)
 refine (HCA.o _).mono ?_;rintro e w1 ⟨rfl,rfl⟩;clear HCA;go_upto_region 2 with (fail)
 cases bad with
 | true=>
  have e2:b2=true:=by rw [←HBB.o];rfl
  subst e2;go_upto_region 4 with (fail)
  clear x0 x2 f0 f2 xl;have hB3:CBox ((w0.setCell ⟨B,2,none⟩ (.bool true)).setCell ⟨B,0,none⟩ (.string S2)) B 103 #[.string S2,.int .i64 left,.bool true]:=(HB.o.set 2 _).set 0 _;have hM3:Mod [B] w0 ((w0.setCell ⟨B,2,none⟩ (.bool true)).setCell ⟨B,0,none⟩ (.string S2)):=((Mod.refl [B] w0).setCell (p:=⟨B,2,none⟩) (List.mem_singleton.2 rfl) _).setCell (p:=⟨B,0,none⟩) (List.mem_singleton.2 rfl) _;generalize World.setCell _ ⟨B,0,none⟩ _=w3 at *
  have hR3:=CBox.mod HR.o hM3 (by first|(simp;done)|(simp;omega)|(intro h;have:=List.mem_singleton.1 h;omega));have HB3:=lH (HB0.o.trans (hM3.upto HB0.o.size (fun g hg=>by rw [List.mem_singleton.1 hg,HWB.o];omega)));obtain ⟨b0,b1,b9,bl⟩:=zAh hB3;have HR4:=lH hR3;obtain ⟨r0,r1,r2,rl⟩:=zAh HR4.o;obtain ⟨g0,g1,g2⟩:=zAu HR4.o;clear hB3 hM3 hR3 HB HR HB0
  go_region
  all_goals go_wp2
  all_goals clear r0 r1 r2 g0 g1 g2 rl b0 b1 b9 bl
  all_goals (
   have hP:CBox (((w3.setCell ⟨B+1,0,none⟩ (.string S2)).setCell ⟨B+1,1,none⟩ (.int .i64 left)).setCell ⟨B+1,2,none⟩ (.bool true)) (B+1) 103 #[.string S2,.int .i64 left,.bool true]:=((HR4.o.set 0 _).set 1 _).set 2 _;have hP:CBox (((w3.setCell ⟨B+1,0,none⟩ (.string S2)).setCell ⟨B+1,1,none⟩ (.int .i64 left)).setCell ⟨B+1,2,none⟩ (.bool true)).drew (B+1) 103 #[.string S2,.int .i64 left,.bool true]:=CBox.below hP (Mod.refl [] _).drew.below
   have hM:Mod [B+1] w3 (((w3.setCell ⟨B+1,0,none⟩ (.string S2)).setCell ⟨B+1,1,none⟩ (.int .i64 left)).setCell ⟨B+1,2,none⟩ (.bool true)).drew:=((((Mod.refl [B+1] w3).setCell (p:=⟨B+1,0,none⟩) (List.mem_singleton.2 rfl) _).setCell (p:=⟨B+1,1,none⟩) (List.mem_singleton.2 rfl) _).setCell (p:=⟨B+1,2,none⟩) (List.mem_singleton.2 rfl) _).drew;obtain ⟨r0,r1,r2,-⟩:=zAh hP
   (try simp only [Exit.inBlock,Exit.then])
   refine bodyPost_ret (by simp [results,Tryz.results65,go_sem,r0,r1,r2];try rfl) rfl ?_;refine ⟨by rw [HQ2.o,HS2.o],?_⟩;have hz:=HB3.o.trans (hM.upto HB3.o.size (fun g hg=>by rw [List.mem_singleton.1 hg,HWB.o];omega))
   first|exact hz|(rw [HWB.o] at hz;exact hz))
 | false=>
  by_cases h0:E=0
  ·have q1:(E != 0)=false:=by rw [h0];rfl
   have e2:b2=false:=by rw [←HBB.o,h0];rfl
   subst e2;clear h0;go_upto_region 4 with (fail)
   clear x0 x2 f0 f2 xl;have hB3:CBox ((w0.setCell ⟨B,2,none⟩ (.bool false)).setCell ⟨B,0,none⟩ (.string S2)) B 103 #[.string S2,.int .i64 left,.bool false]:=(HB.o.set 2 _).set 0 _;have hM3:Mod [B] w0 ((w0.setCell ⟨B,2,none⟩ (.bool false)).setCell ⟨B,0,none⟩ (.string S2)):=((Mod.refl [B] w0).setCell (p:=⟨B,2,none⟩) (List.mem_singleton.2 rfl) _).setCell (p:=⟨B,0,none⟩) (List.mem_singleton.2 rfl) _;generalize World.setCell _ ⟨B,0,none⟩ _=w3 at *
   have hR3:=CBox.mod HR.o hM3 (by first|(simp;done)|(simp;omega)|(intro h;have:=List.mem_singleton.1 h;omega));have HB3:=lH (HB0.o.trans (hM3.upto HB0.o.size (fun g hg=>by rw [List.mem_singleton.1 hg,HWB.o];omega)));obtain ⟨b0,b1,b9,bl⟩:=zAh hB3;have HR4:=lH hR3;obtain ⟨r0,r1,r2,rl⟩:=zAh HR4.o;obtain ⟨g0,g1,g2⟩:=zAu HR4.o;clear hB3 hM3 hR3 HB HR HB0
   go_region
   all_goals go_wp2
   all_goals clear r0 r1 r2 g0 g1 g2 rl b0 b1 b9 bl
   all_goals (
    have hP:CBox (((w3.setCell ⟨B+1,0,none⟩ (.string S2)).setCell ⟨B+1,1,none⟩ (.int .i64 left)).setCell ⟨B+1,2,none⟩ (.bool false)) (B+1) 103 #[.string S2,.int .i64 left,.bool false]:=((HR4.o.set 0 _).set 1 _).set 2 _;have hP:CBox (((w3.setCell ⟨B+1,0,none⟩ (.string S2)).setCell ⟨B+1,1,none⟩ (.int .i64 left)).setCell ⟨B+1,2,none⟩ (.bool false)).drew (B+1) 103 #[.string S2,.int .i64 left,.bool false]:=CBox.below hP (Mod.refl [] _).drew.below
    have hM:Mod [B+1] w3 (((w3.setCell ⟨B+1,0,none⟩ (.string S2)).setCell ⟨B+1,1,none⟩ (.int .i64 left)).setCell ⟨B+1,2,none⟩ (.bool false)).drew:=((((Mod.refl [B+1] w3).setCell (p:=⟨B+1,0,none⟩) (List.mem_singleton.2 rfl) _).setCell (p:=⟨B+1,1,none⟩) (List.mem_singleton.2 rfl) _).setCell (p:=⟨B+1,2,none⟩) (List.mem_singleton.2 rfl) _).drew;obtain ⟨r0,r1,r2,-⟩:=zAh hP
    (try simp only [Exit.inBlock,Exit.then])
    refine bodyPost_ret (by simp [results,Tryz.results65,go_sem,r0,r1,r2];try rfl) rfl ?_;refine ⟨by rw [HQ2.o,HS2.o],?_⟩;have hz:=HB3.o.trans (hM.upto HB3.o.size (fun g hg=>by rw [List.mem_singleton.1 hg,HWB.o];omega))
    first|exact hz|(rw [HWB.o] at hz;exact hz))
  ·have q1:(E != 0)=true:=by simp [h0]
   have e2:b2=true:=by rw [←HBB.o,q1];rfl
   subst e2;clear h0;go_upto_region 4 with (fail)
   clear x0 x2 f0 f2 xl;have hB3:CBox ((w0.setCell ⟨B,2,none⟩ (.bool true)).setCell ⟨B,0,none⟩ (.string S2)) B 103 #[.string S2,.int .i64 left,.bool true]:=(HB.o.set 2 _).set 0 _;have hM3:Mod [B] w0 ((w0.setCell ⟨B,2,none⟩ (.bool true)).setCell ⟨B,0,none⟩ (.string S2)):=((Mod.refl [B] w0).setCell (p:=⟨B,2,none⟩) (List.mem_singleton.2 rfl) _).setCell (p:=⟨B,0,none⟩) (List.mem_singleton.2 rfl) _;generalize World.setCell _ ⟨B,0,none⟩ _=w3 at *
   have hR3:=CBox.mod HR.o hM3 (by first|(simp;done)|(simp;omega)|(intro h;have:=List.mem_singleton.1 h;omega));have HB3:=lH (HB0.o.trans (hM3.upto HB0.o.size (fun g hg=>by rw [List.mem_singleton.1 hg,HWB.o];omega)));obtain ⟨b0,b1,b9,bl⟩:=zAh hB3;have HR4:=lH hR3;obtain ⟨r0,r1,r2,rl⟩:=zAh HR4.o;obtain ⟨g0,g1,g2⟩:=zAu HR4.o;clear hB3 hM3 hR3 HB HR HB0
   go_region
   all_goals go_wp2
   all_goals clear r0 r1 r2 g0 g1 g2 rl b0 b1 b9 bl
   all_goals (
    have hP:CBox (((w3.setCell ⟨B+1,0,none⟩ (.string S2)).setCell ⟨B+1,1,none⟩ (.int .i64 left)).setCell ⟨B+1,2,none⟩ (.bool true)) (B+1) 103 #[.string S2,.int .i64 left,.bool true]:=((HR4.o.set 0 _).set 1 _).set 2 _;have hP:CBox (((w3.setCell ⟨B+1,0,none⟩ (.string S2)).setCell ⟨B+1,1,none⟩ (.int .i64 left)).setCell ⟨B+1,2,none⟩ (.bool true)).drew (B+1) 103 #[.string S2,.int .i64 left,.bool true]:=CBox.below hP (Mod.refl [] _).drew.below
    have hM:Mod [B+1] w3 (((w3.setCell ⟨B+1,0,none⟩ (.string S2)).setCell ⟨B+1,1,none⟩ (.int .i64 left)).setCell ⟨B+1,2,none⟩ (.bool true)).drew:=((((Mod.refl [B+1] w3).setCell (p:=⟨B+1,0,none⟩) (List.mem_singleton.2 rfl) _).setCell (p:=⟨B+1,1,none⟩) (List.mem_singleton.2 rfl) _).setCell (p:=⟨B+1,2,none⟩) (List.mem_singleton.2 rfl) _).drew;obtain ⟨r0,r1,r2,-⟩:=zAh hP
    (try simp only [Exit.inBlock,Exit.then])
    refine bodyPost_ret (by simp [results,Tryz.results65,go_sem,r0,r1,r2];try rfl) rfl ?_;refine ⟨by rw [HQ2.o,HS2.o],?_⟩;have hz:=HB3.o.trans (hM.upto HB3.o.size (fun g hg=>by rw [List.mem_singleton.1 hg,HWB.o];omega))
    first|exact hz|(rw [HWB.o] at hz;exact hz))
theorem zUs {A:Type} {f:Sq→A×Sq} (hf:∀s,(f s).2.left≤s.left):∀(c:Nat) (s:Sq),(qdL f c s).2.left≤s.left
 | 0,s=>Nat.le_refl _
 | c+1,s=>by
  rw [qdL];split
  ·exact Nat.le_refl _
  ·exact Nat.le_trans (zUs hf c _) (hf s)
theorem zP:∀(d:Nat) (s:Sq),(qdX d s).2.left≤s.left
 | 0,s=>Nat.le_refl _
 | d+1,s=>by
  unfold qdX;split
  ·exact Nat.le_refl _
  ·simp only
   refine Nat.le_trans (zUs (zP d) _ _) ?_;exact Nat.le_trans (Nat.le_of_eq (zAn _).2.2) (Nat.le_trans (Nat.le_of_eq (zAn _).2.2) (Nat.le_trans (Nat.le_of_eq (zAn _).2.2) (Nat.le_trans (Nat.le_of_eq (zBb _).2.2.1) (Nat.le_trans (Nat.le_of_eq (zBb _).2.2.1) (Nat.le_trans (Nat.le_of_eq (zAn _).2.2) (Nat.sub_le _ _))))))
theorem zUt {A:Type} {f:Sq→A×Sq} {c i:Nat} {s:Sq} (h:i<c) (hb:s.bad=false):qdL f (c - i) s=((f s).1::(qdL f (c - (i+1)) (f s).2).1,(qdL f (c - (i+1)) (f s).2).2):=by
 obtain ⟨k,hk⟩:∃k,c - i=k+1:=⟨c - i - 1,by omega⟩;rw [hk,show c - (i+1)=k by omega,qdL,if_neg (by rw [hb];decide)]
theorem zUu {A:Type} {f:Sq→A×Sq} {c:Nat} {s:Sq} (h:c=0∨s.bad=true):qdL f c s=([],s):=by
 cases c with
 | zero=>rfl
 | succ k=>rcases h with h|h;cases h;rw [qdL,if_pos h]
theorem yAn (x:Ex):1≤nodesN x:=by rw [zBc];omega
def QrX (d:Nat):Prop:=∀(s:Sq) (X:List Nat) (w:World),s.rest.length≤1000000→s.left≤1000000→(∀k∈X,k<w.heap.size) →
    Calls Tryz.prog 168 #[SqV s,.int .i64 d] w fun e w'=>∃xa xc,e=.returned (.tuple #[exV (qdX d s).1 xa xc,SqV (qdX d s).2])∧Below w.heap.size w w'∧XIn w' X (qdX d s).1 xa xc
theorem zLh (d:Nat) (hd40:d≤41) (ih:∀f,d=f+1→QrX f):QrX d:=by
 intro s X w hs hle hX;have HXW:=lH hX;have HIH:=lH ih
 have HZ0:Hid (s.bad=true∨d=0∨s.left=0→qdX d s=(.mk 0 ⟨#[]⟩ ⟨#[]⟩ 0 0 [],⟨s.rest,s.left,true⟩)):=fun h=>by
  cases d with
  | zero=>rfl
  | succ f=>
   rw [qdX,if_pos (by rcases h with h|h|h;exact .inl h;cases h;exact .inr h)]
 have HZ1:Hid (∀f,d=f+1→s.bad=false→s.left≠0→qdX d s=(let a:=qdN ⟨s.rest,s.left - 1,s.bad⟩;let b:=qdT a.2;let c:=qdT b.2;let n:=qdN c.2;let g:=qdN n.2;let k:=qdN g.2;let l:=qdL (qdX f) k.1.toNat k.2;(.mk a.1 b.1 c.1 (untwice n.1) g.1 l.1,l.2))):=fun f e h1 h2=>by
  subst e;rw [qdX,if_neg (by rintro (h|h);rw [h1] at h;cases h;exact h2 h)]
 clear ih hX;generalize qdX d s=P at *;obtain ⟨rest,left,bad⟩:=s;simp only at *
 unfold SqV;simp only
 obtain ⟨S,hS⟩:∃S:ByteArray,S=⟨rest.toArray⟩:=⟨_,rfl⟩;rw [←hS];have HSS:=lH hS;clear hS;have h1:=zAa w (.cells #[.string S,.int .i64 left,.bool bad] 103);have h2:=zAa (w.alloc (.cells #[.string S,.int .i64 left,.bool bad] 103)) (.cells #[.int .i64 0,.string ⟨#[]⟩,.string ⟨#[]⟩,.int .i64 0,.int .i64 0,.slice none 0 0] 60)
 have h3:=zAa ((w.alloc (.cells #[.string S,.int .i64 left,.bool bad] 103)).alloc (.cells #[.int .i64 0,.string ⟨#[]⟩,.string ⟨#[]⟩,.int .i64 0,.int .i64 0,.slice none 0 0] 60)) (.cells #[.string ⟨#[]⟩,.int .i64 0,.bool false] 103);have hC:=CBox.below (CBox.below (CBox.new w 103 #[.string S,.int .i64 left,.bool bad]) h2) h3
 have hA:CBox (((w.alloc (.cells #[.string S,.int .i64 left,.bool bad] 103)).alloc (.cells #[.int .i64 0,.string ⟨#[]⟩,.string ⟨#[]⟩,.int .i64 0,.int .i64 0,.slice none 0 0] 60)).alloc (.cells #[.string ⟨#[]⟩,.int .i64 0,.bool false] 103)) (w.heap.size+1) 60 #[.int .i64 0,.string ⟨#[]⟩,.string ⟨#[]⟩,.int .i64 0,.int .i64 0,.slice none 0 0]:=by
  have:=CBox.new (w.alloc (.cells #[.string S,.int .i64 left,.bool bad] 103)) 60 #[.int .i64 0,.string ⟨#[]⟩,.string ⟨#[]⟩,.int .i64 0,.int .i64 0,.slice none 0 0];rw [World.size_alloc] at this;exact CBox.below this h3
 have hG:CBox (((w.alloc (.cells #[.string S,.int .i64 left,.bool bad] 103)).alloc (.cells #[.int .i64 0,.string ⟨#[]⟩,.string ⟨#[]⟩,.int .i64 0,.int .i64 0,.slice none 0 0] 60)).alloc (.cells #[.string ⟨#[]⟩,.int .i64 0,.bool false] 103)) (w.heap.size+1+1) 103 #[.string ⟨#[]⟩,.int .i64 0,.bool false]:=by
  have:=CBox.new ((w.alloc (.cells #[.string S,.int .i64 left,.bool bad] 103)).alloc (.cells #[.int .i64 0,.string ⟨#[]⟩,.string ⟨#[]⟩,.int .i64 0,.int .i64 0,.slice none 0 0] 60)) 103 #[.string ⟨#[]⟩,.int .i64 0,.bool false];rw [World.size_alloc,World.size_alloc] at this;exact this
 have HB0:=lH (zA (zA h1 h2) h3);clear h1 h2 h3
 go_enter Tryz.func168,Tryz.ntmps168
 go_upto_region 1 with (fail)
 generalize ((w.alloc (.cells #[.string S,.int .i64 left,.bool bad] 103)).alloc (.cells #[.int .i64 0,.string ⟨#[]⟩,.string ⟨#[]⟩,.int .i64 0,.int .i64 0,.slice none 0 0] 60)).alloc (.cells #[.string ⟨#[]⟩,.int .i64 0,.bool false] 103)=w0 at *;obtain ⟨C,hCe⟩:∃C,w.heap.size=C:=⟨_,rfl⟩;obtain ⟨A,hAe⟩:∃A,C+1=A:=⟨_,rfl⟩;obtain ⟨G,hGe⟩:∃G,A+1=G:=⟨_,rfl⟩;rw [hCe] at hC hA hG ⊢;rw [hAe] at hA hG ⊢;rw [hGe] at hG ⊢;have HWC:Hid (w.heap.size=C):=hCe
 have hE:=CBox.new w0 60 #[.int .i64 0,.string ⟨#[]⟩,.string ⟨#[]⟩,.int .i64 0,.int .i64 0,.slice none 0 0];have hal:=zAa w0 (.cells #[.int .i64 0,.string ⟨#[]⟩,.string ⟨#[]⟩,.int .i64 0,.int .i64 0,.slice none 0 0] 60);have hGl:=hG.lt;have hC1:=hC.below hal;have hA1:=hA.below hal;have hG1:=hG.below hal;have HB1:Hid (Bw w (w0.alloc (.cells #[.int .i64 0,.string ⟨#[]⟩,.string ⟨#[]⟩,.int .i64 0,.int .i64 0,.slice none 0 0] 60))):=HB0.o.trans (hal.mono HB0.o.size);obtain ⟨E,hEe⟩:∃E,w0.heap.size=E:=⟨_,rfl⟩;rw [hEe] at hE hGl
 have hCA:C<A:=by omega
 have hAG:A<G:=by omega
 have hGE:G<E:=hGl;have HZE:=lH hEe;have e0:=hE.cell (i:=0) (v:=.int .i64 0) rfl;clear hC hA hG hal hCe hAe hGe hGl HB0 e0;have HE1:=lH hE;have HC1:=lH hC1;have HA1:=lH hA1;have HG1:=lH hG1;clear hE hC1 hA1 hG1;go_upto_region 2 with (fail)
 (try rw [hEe])
 clear hEe;generalize World.alloc w0 _=w1 at *;clear HZE;obtain ⟨b2,hb2⟩:∃b2:Bool,b2=(bad || (decide (d=0) || decide (left=0))):=⟨_,rfl⟩;have HBB:=lH hb2;clear hb2;have c1:=HC1.o.cell (i:=1) (v:=.int .i64 left) rfl;have c2:=HC1.o.cell (i:=2) (v:=.bool bad) rfl;have f2:=HC1.o.frozen 2;have cl:=HC1.o.lt
 go_cut [] from 12 to 23 (fun wx=>Hid (CBox wx C 103 #[.string S,.int .i64 left,.bool b2]∧Mod [C] w1 wx))
 case first=>
  cases bad with
  | true=>
   have HN:Hid (b2=true):=by show _=_;rw [HBB.o];rfl
   clear HBB HZ0 HZ1;go_wp2;go_meet
   case rel=>exact ⟨by rw [HN.o];exact HC1.o.set 2 _,zBx _ _ _ _⟩
  | false=>
   by_cases h0:d=0
   ·have q1:((d:Int)==0)=true:=by simp [h0]
    have HN:Hid (b2=true):=by show _=_;rw [HBB.o,h0];rfl
    clear HBB HZ0 HZ1 h0;go_wp2;go_meet
    case rel=>exact ⟨by rw [HN.o];exact HC1.o.set 2 _,zBx _ _ _ _⟩
   ·have q1:((d:Int)==0)=false:=by simp;omega
    by_cases h1:left=0
    ·have q2:((left:Int)==0)=true:=by simp [h1]
     have HN:Hid (b2=true):=by show _=_;rw [HBB.o,h1];simp
     clear HBB HZ0 HZ1 h0 h1;go_wp2;go_meet
     case rel=>exact ⟨by rw [HN.o];exact HC1.o.set 2 _,zBx _ _ _ _⟩
    ·have q2:((left:Int)==0)=false:=by simp;omega
     have HN:Hid (b2=false):=by show _=_;rw [HBB.o,decide_eq_false h0,decide_eq_false h1];rfl
     clear HBB HZ0 HZ1 h0 h1;go_wp2;go_meet
     case rel=>exact ⟨by rw [HN.o];exact HC1.o.set 2 _,zBx _ _ _ _⟩
 case rest=>
 obtain ⟨hc2,hm2⟩:=hcut.out;generalize wc=w2 at *;have hCE:C<E:=by omega
 have hCG:C<G:=by omega
 have hAE:A<E:=by omega
 have HE2:=CBox.modh HE1.o hm2;have HA2:=CBox.modh HA1.o hm2;have HG2:=CBox.modh HG1.o hm2;have HB2:=zAm HB1.o hm2 HWC;have HC2:=lH hc2;clear hc2 hm2 hcut c1 c2 f2 cl HE1 HA1 HG1 HC1 HB1
 by_cases hbb:bad=true∨d=0∨left=0
 ·have hb2:b2=true:=by
   rw [HBB.o]
   rcases hbb with h|h|h<;>simp [h]
  subst hb2;have HP:Hid (P=(.mk 0 ⟨#[]⟩ ⟨#[]⟩ 0 0 [],⟨rest,left,true⟩)):=HZ0.o hbb;clear HZ0 HZ1 HBB hbb HIH HXW;obtain ⟨e0,e1,e2,e3,e4,e5,el⟩:=zCv HE2.o;obtain ⟨c0,c1,c2,cl⟩:=zAh HC2.o;obtain ⟨a0,a1,a2,a3,a4,a5,al⟩:=zCv HA2.o;obtain ⟨b0,b1,b2,b3,b4,b5⟩:=zNl HA2.o;obtain ⟨g0,g1,g2,gl⟩:=zAh HG2.o;obtain ⟨h0,h1,h2⟩:=zAu HG2.o;go_upto_region 4 with (fail)
  go_region
  all_goals go_wp2
  all_goals clear e0 a0 b0 e1 a1 b1 e2 a2 b2 e3 a3 b3 e4 a4 b4 e5 a5 b5 c0 g0 h0 c1 g1 h1 c2 g2 h2 el cl al gl
  all_goals (
   obtain ⟨hp1,hp2⟩:=CBox.sixes HA2.o (.int .i64 0) (.string ⟨#[]⟩) (.string ⟨#[]⟩) (.int .i64 0) (.int .i64 0) (.slice none 0 0);have hg1:=CBox.mod HG2.o hp2 zAe;obtain ⟨hg2,hm2⟩:=CBox.threes hg1 (.string S) (.int .i64 left) (.bool true);have hp3:=CBox.below (CBox.mod hp1 hm2 zAe) (Mod.refl [] _).drew.below;have hg3:=CBox.below hg2 (Mod.refl [] _).drew.below;obtain ⟨r0,r1,r2,r3,r4,r5,-⟩:=zCv hp3;obtain ⟨s0,s1,s2,-⟩:=zAh hg3
   have hz1:=HB2.o.trans (hp2.upto HB2.o.size (fun g hg=>by rw [List.mem_singleton.1 hg,HWC.o];omega));have hz2:=hz1.trans (hm2.upto hz1.size (fun g hg=>by rw [List.mem_singleton.1 hg,HWC.o];omega));have hz:=hz2.trans ((Mod.refl [] _).drew.below.mono hz2.size)
   (try simp only [Exit.inBlock,Exit.then])
   refine bodyPost_ret (by simp [results,Tryz.results168,go_sem,r0,r1,r2,r3,r4,r5,s0,s1,s2];try rfl) rfl ?_
   exact ⟨none,0,by rw [HP.o,HSS.o];rfl,hz,by rw [HP.o];exact ⟨Reads.nilRow _ _ _ _,Nat.le_refl _,by omega⟩⟩)
 ·have hb2:b2=false:=by
   rw [HBB.o];simp only [not_or] at hbb
   obtain ⟨h1,h2,h3⟩:=hbb
   cases bad with
   | true=>exact absurd rfl h1
   | false=>rw [decide_eq_false h2,decide_eq_false h3];rfl
  subst hb2
  have hbf:bad=false:=by cases bad with|true=>exact absurd (.inl rfl) hbb|false=>rfl
  subst hbf;have hlf:left≠0:=fun h=>hbb (.inr (.inr h));obtain ⟨f,hf⟩:∃f,d=f+1:=⟨d - 1,by have:d≠0:=fun h=>hbb (.inr (.inl h));omega⟩;have HQX:Hid (QrX f):=HIH.o f hf;have HPP:=HZ1.o f hf rfl hlf;have hfd:(d:Int) - 1=(f:Int):=by omega
  have hwf:IntKind.i64.wrap (f:Int)=(f:Int):=IntWalk.i64_in _ (by omega);obtain ⟨l1,hl1⟩:∃l1,left - 1=l1:=⟨_,rfl⟩;have hld:(left:Int) - 1=(l1:Int):=by omega
  have hlm:l1≤1000000:=by omega
  rw [hl1] at HPP;clear hbb HZ0 HZ1 HBB HIH hf hl1 hlf;have c1:=HC2.o.cell (i:=1) (v:=.int .i64 left) rfl;have c2:=HC2.o.cell (i:=2) (v:=.bool false) rfl;have f1:=HC2.o.frozen 1;have cl:=HC2.o.lt;go_upto_region 6 with (fail)
  clear c1 c2 f1 cl;have hC3:CBox (w2.setCell ⟨C,1,none⟩ (.int .i64 l1)) C 103 #[.string S,.int .i64 l1,.bool false]:=HC2.o.set 1 _;have hM3:Mod [C] w2 (w2.setCell ⟨C,1,none⟩ (.int .i64 l1)):=zBx _ _ _ _;generalize World.setCell _ ⟨C,1,none⟩ _=v0 at *;have HE0:=CBox.modh HE2.o hM3;have HA0:=CBox.modh HA2.o hM3;have HG0:=CBox.modh HG2.o hM3;have HB0:=zAm HB2.o hM3 HWC;obtain ⟨s0,hs0⟩:∃s0:Sq,(⟨rest,l1,false⟩:Sq)=s0:=⟨_,rfl⟩
  have HC0:Hid (CBox v0 C 103 #[.string ⟨s0.rest.toArray⟩,.int .i64 s0.left,.bool s0.bad]):=by
   show CBox _ _ _ _
   rw [←hs0,←HSS.o];exact hC3
  have hr0:s0.rest.length≤1000000:=by rw [←hs0];exact hs
  have ht0:s0.left≤1000000:=by rw [←hs0];exact hlm
  rw [hs0] at HPP;clear hC3 hM3 HE2 HA2 HG2 HB2 HC2 hs0 hs hle hlm HSS hld;have hx11:=zAn s0;have hv11:=zCn s0;have HCA:=zBl s0 v0 hr0;obtain ⟨p11,hp11⟩:∃p,qdN s0=p:=⟨_,rfl⟩;rw [hp11] at HCA hx11 HPP hv11;obtain ⟨ka,s11⟩:=p11;unfold SqV at HCA;simp only at HCA hx11 HPP hv11
  have hr11:s11.rest.length≤1000000:=Nat.le_trans hx11.1 hr0;have ht11:s11.left≤1000000:=by have:=hx11.2.2;omega
  replace HCA:=lH HCA;clear hp11 hx11;obtain ⟨c0,c1,c2,cl⟩:=zAh HC0.o;go_wp2_with (fail)
  refine HCA.o.mono ?_;rintro e w11 ⟨rfl,hb11⟩;have hE:=HE0.o.below hb11;have hA:=HA0.o.below hb11;have hG:=HG0.o.below hb11;have hC:=HC0.o.below hb11;have hB:=HB0.o.trans (hb11.mono HB0.o.size);clear HCA hb11 c0 c1 c2 cl HE0 HA0 HG0 HC0 HB0;have e0:=hE.cell (i:=0) (v:=.int .i64 0) rfl;have ef:=hE.frozen 0;have el:=hE.lt;obtain ⟨c0,c1,c2,cl⟩:=zAh hC;obtain ⟨f0,f1,f2⟩:=zAu hC;go_upto_region 7 with (fail)
  clear c0 c1 c2 f0 f1 f2 cl e0 ef el;have hm1:Mod [E] w11 (w11.setCell ⟨E,0,none⟩ (.int .i64 ka)):=(Mod.refl [E] w11).setCell (p:=⟨E,0,none⟩) (List.mem_singleton.2 rfl) _;have hE1:CBox (w11.setCell ⟨E,0,none⟩ (.int .i64 ka)) E 60 #[.int .i64 ka,.string ⟨#[]⟩,.string ⟨#[]⟩,.int .i64 0,.int .i64 0,.slice none 0 0]:=hE.set 0 _;have hC1:=CBox.mod hC hm1 zAe;have hA1:=CBox.mod hA hm1 zAe;have hG1:=CBox.mod hG hm1 zAe;have hB1:=hB.trans (hm1.upto hB.size (fun g hg=>by rw [List.mem_singleton.1 hg,HWC.o];omega));clear hm1 hE hC hA hG hB
  obtain ⟨hC2,hm2⟩:=CBox.threes hC1 (.string ⟨s11.rest.toArray⟩) (.int .i64 s11.left) (.bool s11.bad);generalize World.setCell _ ⟨C,2,none⟩ _=v11 at *;have HE11:=CBox.modh hE1 hm2;have HA11:=CBox.modh hA1 hm2;have HG11:=CBox.modh hG1 hm2;have HB11:=zAm hB1 hm2 HWC;have HC11:=lH hC2;clear hm2 hC1 hC2 hE1 hA1 hG1 hB1;have hx12:=zBb s11
  skip
  have HCA:=zEi s11 v11 hr11;obtain ⟨p12,hp12⟩:∃p,qdT s11=p:=⟨_,rfl⟩;rw [hp12] at HCA hx12 HPP;obtain ⟨tb,s12⟩:=p12;unfold SqV at HCA;simp only at HCA hx12 HPP
  have hr12:s12.rest.length≤1000000:=Nat.le_trans hx12.1 hr11;have ht12:s12.left≤1000000:=by have:=hx12.2.2.1;omega
  replace HCA:=lH HCA;clear hp12 hx12;obtain ⟨c0,c1,c2,cl⟩:=zAh HC11.o;go_wp2_with (fail)
  refine HCA.o.mono ?_;rintro e w12 ⟨rfl,hb12⟩;have hE:=HE11.o.below hb12;have hA:=HA11.o.below hb12;have hG:=HG11.o.below hb12;have hC:=HC11.o.below hb12;have hB:=HB11.o.trans (hb12.mono HB11.o.size);clear HCA hb12 c0 c1 c2 cl HE11 HA11 HG11 HC11 HB11;have e1:=hE.cell (i:=1) (v:=.string ⟨#[]⟩) rfl;have ef:=hE.frozen 1;have el:=hE.lt;obtain ⟨c0,c1,c2,cl⟩:=zAh hC;obtain ⟨f0,f1,f2⟩:=zAu hC;go_upto_region 8 with (fail)
  clear c0 c1 c2 f0 f1 f2 cl e1 ef el;have hm1:Mod [E] w12 (w12.setCell ⟨E,1,none⟩ (.string tb)):=(Mod.refl [E] w12).setCell (p:=⟨E,1,none⟩) (List.mem_singleton.2 rfl) _;have hE1:CBox (w12.setCell ⟨E,1,none⟩ (.string tb)) E 60 #[.int .i64 ka,.string tb,.string ⟨#[]⟩,.int .i64 0,.int .i64 0,.slice none 0 0]:=hE.set 1 _;have hC1:=CBox.mod hC hm1 zAe;have hA1:=CBox.mod hA hm1 zAe;have hG1:=CBox.mod hG hm1 zAe;have hB1:=hB.trans (hm1.upto hB.size (fun g hg=>by rw [List.mem_singleton.1 hg,HWC.o];omega));clear hm1 hE hC hA hG hB
  obtain ⟨hC2,hm2⟩:=CBox.threes hC1 (.string ⟨s12.rest.toArray⟩) (.int .i64 s12.left) (.bool s12.bad);generalize World.setCell _ ⟨C,2,none⟩ _=v12 at *;have HE12:=CBox.modh hE1 hm2;have HA12:=CBox.modh hA1 hm2;have HG12:=CBox.modh hG1 hm2;have HB12:=zAm hB1 hm2 HWC;have HC12:=lH hC2;clear hm2 hC1 hC2 hE1 hA1 hG1 hB1;have hx13:=zBb s12
  skip
  have HCA:=zEi s12 v12 hr12;obtain ⟨p13,hp13⟩:∃p,qdT s12=p:=⟨_,rfl⟩;rw [hp13] at HCA hx13 HPP;obtain ⟨tc,s13⟩:=p13;unfold SqV at HCA;simp only at HCA hx13 HPP
  have hr13:s13.rest.length≤1000000:=Nat.le_trans hx13.1 hr12;have ht13:s13.left≤1000000:=by have:=hx13.2.2.1;omega
  replace HCA:=lH HCA;clear hp13 hx13;obtain ⟨c0,c1,c2,cl⟩:=zAh HC12.o;go_wp2_with (fail)
  refine HCA.o.mono ?_;rintro e w13 ⟨rfl,hb13⟩;have hE:=HE12.o.below hb13;have hA:=HA12.o.below hb13;have hG:=HG12.o.below hb13;have hC:=HC12.o.below hb13;have hB:=HB12.o.trans (hb13.mono HB12.o.size);clear HCA hb13 c0 c1 c2 cl HE12 HA12 HG12 HC12 HB12;have e2:=hE.cell (i:=2) (v:=.string ⟨#[]⟩) rfl;have ef:=hE.frozen 2;have el:=hE.lt;obtain ⟨c0,c1,c2,cl⟩:=zAh hC;obtain ⟨f0,f1,f2⟩:=zAu hC;go_upto_region 9 with (fail)
  clear c0 c1 c2 f0 f1 f2 cl e2 ef el;have hm1:Mod [E] w13 (w13.setCell ⟨E,2,none⟩ (.string tc)):=(Mod.refl [E] w13).setCell (p:=⟨E,2,none⟩) (List.mem_singleton.2 rfl) _;have hE1:CBox (w13.setCell ⟨E,2,none⟩ (.string tc)) E 60 #[.int .i64 ka,.string tb,.string tc,.int .i64 0,.int .i64 0,.slice none 0 0]:=hE.set 2 _;have hC1:=CBox.mod hC hm1 zAe;have hA1:=CBox.mod hA hm1 zAe;have hG1:=CBox.mod hG hm1 zAe;have hB1:=hB.trans (hm1.upto hB.size (fun g hg=>by rw [List.mem_singleton.1 hg,HWC.o];omega));clear hm1 hE hC hA hG hB
  obtain ⟨hC2,hm2⟩:=CBox.threes hC1 (.string ⟨s13.rest.toArray⟩) (.int .i64 s13.left) (.bool s13.bad);generalize World.setCell _ ⟨C,2,none⟩ _=v13 at *;have HE13:=CBox.modh hE1 hm2;have HA13:=CBox.modh hA1 hm2;have HG13:=CBox.modh hG1 hm2;have HB13:=zAm hB1 hm2 HWC;have HC13:=lH hC2;clear hm2 hC1 hC2 hE1 hA1 hG1 hB1;have hx14:=zAn s13;have hv14:=zCn s13;have HCA:=zBl s13 v13 hr13;obtain ⟨p14,hp14⟩:∃p,qdN s13=p:=⟨_,rfl⟩;rw [hp14] at HCA hx14 HPP hv14;obtain ⟨kn,s14⟩:=p14;unfold SqV at HCA
  simp only at HCA hx14 HPP hv14
  have hr14:s14.rest.length≤1000000:=Nat.le_trans hx14.1 hr13;have ht14:s14.left≤1000000:=by have:=hx14.2.2;omega
  replace HCA:=lH HCA;clear hp14 hx14;obtain ⟨c0,c1,c2,cl⟩:=zAh HC13.o;go_wp2_with (fail)
  refine HCA.o.mono ?_;rintro e w14 ⟨rfl,hb14⟩;have hE:=HE13.o.below hb14;have hA:=HA13.o.below hb14;have hG:=HG13.o.below hb14;have hC:=HC13.o.below hb14;have hB:=HB13.o.trans (hb14.mono HB13.o.size);clear HCA hb14 c0 c1 c2 cl HE13 HA13 HG13 HC13 HB13;have e3:=hE.cell (i:=3) (v:=.int .i64 0) rfl;have ef:=hE.frozen 3;have el:=hE.lt;obtain ⟨c0,c1,c2,cl⟩:=zAh hC;obtain ⟨f0,f1,f2⟩:=zAu hC;go_upto_region 10 with (fail)
  clear c0 c1 c2 f0 f1 f2 cl e3 ef el;have hm1:Mod [E] w14 (w14.setCell ⟨E,3,none⟩ (.int .i64 kn)):=(Mod.refl [E] w14).setCell (p:=⟨E,3,none⟩) (List.mem_singleton.2 rfl) _;have hE1:CBox (w14.setCell ⟨E,3,none⟩ (.int .i64 kn)) E 60 #[.int .i64 ka,.string tb,.string tc,.int .i64 kn,.int .i64 0,.slice none 0 0]:=hE.set 3 _;have hC1:=CBox.mod hC hm1 zAe;have hA1:=CBox.mod hA hm1 zAe;have hG1:=CBox.mod hG hm1 zAe;have hB1:=hB.trans (hm1.upto hB.size (fun g hg=>by rw [List.mem_singleton.1 hg,HWC.o];omega));clear hm1 hE hC hA hG hB
  obtain ⟨hC2,hm2⟩:=CBox.threes hC1 (.string ⟨s14.rest.toArray⟩) (.int .i64 s14.left) (.bool s14.bad);generalize World.setCell _ ⟨C,2,none⟩ _=v14 at *;have HE14:=CBox.modh hE1 hm2;have HA14:=CBox.modh hA1 hm2;have HG14:=CBox.modh hG1 hm2;have HB14:=zAm hB1 hm2 HWC;have HC14:=lH hC2;clear hm2 hC1 hC2 hE1 hA1 hG1 hB1;have hkm:kn.tmod 2=kn % 2:=Int.tmod_eq_emod_of_nonneg hv14.1;obtain ⟨kq,hkq⟩:∃q,kn.tdiv 2=q:=⟨_,rfl⟩;have hqe:kq=kn / 2:=by rw [←hkq];exact Int.tdiv_eq_ediv_of_nonneg hv14.1
  have hq0:0≤kq:=by omega
  have hq1:kq≤1099511627776:=by omega
  have HUT:Hid (untwice kn=if kn % 2=1 then -kq else kq):=by rw [hqe];rfl
  obtain ⟨un,hun⟩:∃un,untwice kn=un:=⟨_,rfl⟩;rw [hun] at HUT HPP;clear hun hqe;have e3:=HE14.o.cell (i:=3) (v:=.int .i64 kn) rfl;have ef:=HE14.o.frozen 3;have el:=HE14.o.lt;go_upto_if 59 with (fail)
  go_cut [] from 57 to 68 (fun wx=>Hid (CBox wx E 60 #[.int .i64 ka,.string tb,.string tc,.int .i64 un,.int .i64 0,.slice none 0 0]∧Mod [E] v14 wx))
  case first=>
   by_cases hm:kn % 2=1
   ·have q1:(kn % 2==1)=true:=by simp [hm]
    have HN:Hid (un=-kq):=by show _=_;rw [HUT.o,if_pos hm]
    clear hm HUT;go_wp2;go_meet
    case rel=>exact ⟨by rw [HN.o];exact HE14.o.set 3 _,zBx _ _ _ _⟩
   ·have q1:(kn % 2==1)=false:=by simp [hm]
    have HN:Hid (un=kq):=by show _=_;rw [HUT.o,if_neg hm]
    clear hm HUT;go_wp2;go_meet
    case rel=>exact ⟨by rw [HN.o];exact HE14.o.set 3 _,zBx _ _ _ _⟩
  case rest=>
  obtain ⟨hE9,hm9⟩:=hcut.out;generalize wc=vq at *;have HEq:=lH hE9;have HAq:=CBox.modh HA14.o hm9;have HGq:=CBox.modh HG14.o hm9;have HCq:=CBox.modh HC14.o hm9;have HBq:=zAm HB14.o hm9 HWC;obtain ⟨sq,hsq⟩:∃sq,s14=sq:=⟨_,rfl⟩;rw [hsq] at hr14 ht14 HCq HPP;have hrq:=hr14;have htq:=ht14;clear hcut hE9 hm9 HE14 HA14 HG14 HC14 HB14 e3 ef el HUT hkm hkq hq0 hq1 hsq hr14 ht14;have hx15:=zAn sq;have hv15:=zCn sq;have HCA:=zBl sq vq hrq;obtain ⟨p15,hp15⟩:∃p,qdN sq=p:=⟨_,rfl⟩;rw [hp15] at HCA hx15 HPP hv15
  obtain ⟨kg,s15⟩:=p15;unfold SqV at HCA;simp only at HCA hx15 HPP hv15
  have hr15:s15.rest.length≤1000000:=Nat.le_trans hx15.1 hrq;have ht15:s15.left≤1000000:=by have:=hx15.2.2;omega
  replace HCA:=lH HCA;clear hp15 hx15;obtain ⟨c0,c1,c2,cl⟩:=zAh HCq.o;go_wp2_with (fail)
  refine HCA.o.mono ?_;rintro e w15 ⟨rfl,hb15⟩;have hE:=HEq.o.below hb15;have hA:=HAq.o.below hb15;have hG:=HGq.o.below hb15;have hC:=HCq.o.below hb15;have hB:=HBq.o.trans (hb15.mono HBq.o.size);clear HCA hb15 c0 c1 c2 cl HEq HAq HGq HCq HBq;have e4:=hE.cell (i:=4) (v:=.int .i64 0) rfl;have ef:=hE.frozen 4;have el:=hE.lt;obtain ⟨c0,c1,c2,cl⟩:=zAh hC;obtain ⟨f0,f1,f2⟩:=zAu hC;go_upto_region 14 with (fail)
  clear c0 c1 c2 f0 f1 f2 cl e4 ef el;have hm1:Mod [E] w15 (w15.setCell ⟨E,4,none⟩ (.int .i64 kg)):=(Mod.refl [E] w15).setCell (p:=⟨E,4,none⟩) (List.mem_singleton.2 rfl) _;have hE1:CBox (w15.setCell ⟨E,4,none⟩ (.int .i64 kg)) E 60 #[.int .i64 ka,.string tb,.string tc,.int .i64 un,.int .i64 kg,.slice none 0 0]:=hE.set 4 _;have hC1:=CBox.mod hC hm1 zAe;have hA1:=CBox.mod hA hm1 zAe;have hG1:=CBox.mod hG hm1 zAe;have hB1:=hB.trans (hm1.upto hB.size (fun g hg=>by rw [List.mem_singleton.1 hg,HWC.o];omega));clear hm1 hE hC hA hG hB
  obtain ⟨hC2,hm2⟩:=CBox.threes hC1 (.string ⟨s15.rest.toArray⟩) (.int .i64 s15.left) (.bool s15.bad);generalize World.setCell _ ⟨C,2,none⟩ _=v15 at *;have HE15:=CBox.modh hE1 hm2;have HA15:=CBox.modh hA1 hm2;have HG15:=CBox.modh hG1 hm2;have HB15:=zAm hB1 hm2 HWC;have HC15:=lH hC2;clear hm2 hC1 hC2 hE1 hA1 hG1 hB1;have hx16:=zAn s15;have hv16:=zCn s15;have HCA:=zBl s15 v15 hr15;obtain ⟨p16,hp16⟩:∃p,qdN s15=p:=⟨_,rfl⟩;rw [hp16] at HCA hx16 HPP hv16;obtain ⟨kkI,s16⟩:=p16;unfold SqV at HCA
  simp only at HCA hx16 HPP hv16
  have hr16:s16.rest.length≤1000000:=Nat.le_trans hx16.1 hr15;have ht16:s16.left≤1000000:=by have:=hx16.2.2;omega
  replace HCA:=lH HCA;clear hp16 hx16;obtain ⟨c0,c1,c2,cl⟩:=zAh HC15.o;go_wp2_with (fail)
  refine HCA.o.mono ?_;rintro e w16 ⟨rfl,hb16⟩;have hE:=HE15.o.below hb16;have hA:=HA15.o.below hb16;have hG:=HG15.o.below hb16;have hC:=HC15.o.below hb16;have hB:=HB15.o.trans (hb16.mono HB15.o.size);clear HCA hb16 c0 c1 c2 cl HE15 HA15 HG15 HC15 HB15;obtain ⟨c0,c1,c2,cl⟩:=zAh hC;obtain ⟨f0,f1,f2⟩:=zAu hC;go_upto_region 15 with (fail)
  clear c0 c1 c2 f0 f1 f2 cl;have hE1:=hE;have hC1:=hC;have hA1:=hA;have hG1:=hG;have hB1:=hB;clear hE hC hA hG hB;obtain ⟨hC2,hm2⟩:=CBox.threes hC1 (.string ⟨s16.rest.toArray⟩) (.int .i64 s16.left) (.bool s16.bad);generalize World.setCell _ ⟨C,2,none⟩ _=v16 at *;have HE16:=CBox.modh hE1 hm2;have HA16:=CBox.modh hA1 hm2;have HG16:=CBox.modh hG1 hm2;have HB16:=zAm hB1 hm2 HWC;have HC16:=lH hC2;clear hm2 hC1 hC2 hE1 hA1 hG1 hB1;obtain ⟨kk,rfl⟩:∃n:Nat,kkI=n:=⟨kkI.toNat,(Int.toNat_of_nonneg hv16.1).symm⟩
  rw [Int.toNat_natCast] at HPP;have hkk:kk≤1099511627776:=by omega
  obtain ⟨Y,hY⟩:∃Y,C::A::G::E::X=Y:=⟨_,rfl⟩
  have HYA:Hid (C∈Y∧A∈Y∧G∈Y∧E∈Y∧(∀k,k∈X→k∈Y)∧(∀k,k∈Y→k<E+1)):=by
   refine ⟨by rw [←hY];simp,by rw [←hY];simp,by rw [←hY];simp,by rw [←hY];simp,fun k hk=>by rw [←hY];simp [hk],fun k hk=>?_⟩;rw [←hY] at hk;simp only [List.mem_cons] at hk
   rcases hk with rfl|rfl|rfl|rfl|hk
   ·omega
   ·omega
   ·omega
   ·omega
   ·have h1:=HXW.o k hk
    rw [HWC.o] at h1;omega
  clear hY HXW hv11 hv14 hv15 hv16 hr0 hr11 hr12 hr13 hrq hr15 ht0 ht11 ht12 ht13 htq ht15;have hbn:s16.bad=false→0+s16.rest.length≤1000000:=fun _=>by omega
  go_wp2
  go_loopw [8] (fun iv wr=>∃(i:Nat) (vv:Value) (L:List Ex) (sr:Sq),i≤kk∧iv=.int .i64 i∧L.length=i∧sr.rest.length≤1000000∧sr.left≤1000000∧(sr.bad=false→i+sr.rest.length≤1000000)∧Hid (qdL (qdX f) kk s16=(L++(qdL (qdX f) (kk - i) sr).1,(qdL (qdX f) (kk - i) sr).2))∧Hid (OwnT wr Y (E+1) 60 6 exprT vv L)∧Hid (CBox wr E 60 #[.int .i64 ka,.string tb,.string tc,.int .i64 un,.int .i64 kg,vv])∧Hid (CBox wr C 103 #[.string ⟨sr.rest.toArray⟩,.int .i64 sr.left,.bool sr.bad])∧Hid (CBox wr A 60 #[.int .i64 0,.string ⟨#[]⟩,.string ⟨#[]⟩,.int .i64 0,.int .i64 0,.slice none 0 0])∧Hid (CBox wr G 103 #[.string ⟨#[]⟩,.int .i64 0,.bool false])∧Hid (Bw w wr)) (fun iv _=>kk - (intOf iv).toNat)
  case atStart=>exact ⟨0,.slice none 0 0,[],s16,Nat.zero_le _,rfl,rfl,hr16,ht16,hbn,rfl,OwnT.nil _ _ _ _ _ _,HE16,HC16,HA16,HG16,HB16⟩
  case round=>
   clear HE16 HC16 HA16 HG16 HB16 hr16 ht16 hbn;obtain ⟨i,vv,L,sr,hik,rfl,hLi,hsr,hsl,hbn,HRR,HO,HE,HC,HA,HG,HB⟩:=hrel;obtain ⟨c0,c1,c2,cl⟩:=zAh HC.o
   by_cases hgo:i<kk∧sr.bad=false
   ·obtain ⟨hi,hsb⟩:=hgo
    have hbn2:=hbn hsb;rw [hsb] at c2;have hd1:decide ((i:Int)<(kk:Int))=true:=decide_eq_true (by omega);have hd2:decide (i<kk)=true:=decide_eq_true hi
    have hYs:∀k∈vv.ownBlock.toList++Y,k<wr.heap.size:=by
     intro k hk
     rcases List.mem_append.1 hk with hk|hk
     ·exact HO.o.lt (by simpa using hk)
     ·have h1:=HYA.o.2.2.2.2.2 k hk
      have:=HE.o.lt;omega
    have HCA:=HQX.o sr (vv.ownBlock.toList++Y) wr hsr hsl hYs;have HST:Hid (qdL (qdX f) (kk - i) sr=((qdX f sr).1::(qdL (qdX f) (kk - (i+1)) (qdX f sr).2).1,(qdL (qdX f) (kk - (i+1)) (qdX f sr).2).2)):=zUt hi hsb;have hn:=zKz f sr;have hlf:=zP f sr;obtain ⟨p,hp⟩:∃p,qdX f sr=p:=⟨_,rfl⟩;rw [hp] at HCA HST hn hlf;obtain ⟨y,sn⟩:=p;have hny:=yAn y;unfold SqV exV at HCA;simp only at HCA HST hn hlf
    rw [hsb] at HCA;have hsn:sn.rest.length≤1000000:=by omega
    have hsnl:sn.left≤1000000:=by omega
    have hbnn:sn.bad=false→(i+1)+sn.rest.length≤1000000:=fun h=>by have:=hn.2 h;omega
    have hmx:L.length≤4000000:=by omega
    replace HCA:=lH HCA;clear hp hn hny hlf hYs hbn hbn2 hsr hsl hsb;go_wp2_with (fail)
    refine HCA.o.mono ?_;rintro e w1 ⟨ya,yc,rfl,hb1,hxi⟩;clear HCA c0 c1 c2 cl;go_upto_region 19 with (fail)
    have h1:=zAa w1 (.cells #[.int .i64 y.kind,.string y.name,.string y.more,.int .i64 y.num,.int .i64 y.den,.slice ya y.subs.length yc] 60);have h2:=zAa (w1.alloc (.cells #[.int .i64 y.kind,.string y.name,.string y.more,.int .i64 y.num,.int .i64 y.den,.slice ya y.subs.length yc] 60)) (.cells #[.string ⟨sn.rest.toArray⟩,.int .i64 sn.left,.bool sn.bad] 103);have hN:=CBox.below (CBox.new w1 60 #[.int .i64 y.kind,.string y.name,.string y.more,.int .i64 y.num,.int .i64 y.den,.slice ya y.subs.length yc]) h2
    have hO:CBox ((w1.alloc (.cells #[.int .i64 y.kind,.string y.name,.string y.more,.int .i64 y.num,.int .i64 y.den,.slice ya y.subs.length yc] 60)).alloc (.cells #[.string ⟨sn.rest.toArray⟩,.int .i64 sn.left,.bool sn.bad] 103)) (w1.heap.size+1) 103 #[.string ⟨sn.rest.toArray⟩,.int .i64 sn.left,.bool sn.bad]:=by
     have:=CBox.new (w1.alloc (.cells #[.int .i64 y.kind,.string y.name,.string y.more,.int .i64 y.num,.int .i64 y.den,.slice ya y.subs.length yc] 60)) 103 #[.string ⟨sn.rest.toArray⟩,.int .i64 sn.left,.bool sn.bad];rwa [World.size_alloc] at this
    have hbb:=zA (zA hb1 h1) h2;have HO2:=lH (HO.o.below hbb);have HY2:=lH (hxi.below (zA h1 h2));have HE2:=lH (CBox.below HE.o hbb);have HA2:=lH (CBox.below HA.o hbb);have HG2:=lH (CBox.below HG.o hbb);have hC2:=CBox.below HC.o hbb;have HB2:=lH (HB.o.trans (hbb.mono HB.o.size));have hEN:E<w1.heap.size:=Nat.lt_of_lt_of_le HE.o.lt hb1.size;clear h1 h2 hb1 hxi hbb HO HE HA HG HC HB
    generalize (w1.alloc (.cells #[.int .i64 y.kind,.string y.name,.string y.more,.int .i64 y.num,.int .i64 y.den,.slice ya y.subs.length yc] 60)).alloc (.cells #[.string ⟨sn.rest.toArray⟩,.int .i64 sn.left,.bool sn.bad] 103)=w3 at *;generalize w1.heap.size=N at *;obtain ⟨c0,c1,c2,cl⟩:=zAh hC2;obtain ⟨f0,f1,f2⟩:=zAu hC2;obtain ⟨o0,o1,o2,ol⟩:=zAh hO;go_upto_region 20 with (fail)
    clear c0 c1 c2 f0 f1 f2 cl o0 o1 o2 ol hO;obtain ⟨hC3,hm3⟩:=CBox.threes hC2 (.string ⟨sn.rest.toArray⟩) (.int .i64 sn.left) (.bool sn.bad);generalize World.setCell _ ⟨C,2,none⟩ _=w4 at *;have hN4:=CBox.mod hN hm3 zAe;have hO4:=HO2.o.mod (hm3.mono (fun k hk=>by rw [List.mem_singleton.1 hk];exact HYA.o.1)) (fun k hk hX=>by have h1:=HO2.o.ge hk;have:=HYA.o.2.2.2.2.2 k hX;omega);have hY4:=HY2.o.mod (hm3.mono (fun k hk=>by rw [List.mem_singleton.1 hk];exact List.mem_append_right _ HYA.o.1));have hE4:=CBox.mod HE2.o hm3 zAe
    have hA4:=CBox.mod HA2.o hm3 zAe;have hG4:=CBox.mod HG2.o hm3 zAe;have hB4:=HB2.o.trans (hm3.upto HB2.o.size (fun g hg=>by rw [List.mem_singleton.1 hg,HWC.o];exact Nat.le_refl _));have hal:=zAa w4 (.cells #[.int .i64 y.kind,.string y.name,.string y.more,.int .i64 y.num,.int .i64 y.den,.slice ya y.subs.length yc] 60);have HYB:=lH (CBox.new w4 60 #[.int .i64 y.kind,.string y.name,.string y.more,.int .i64 y.num,.int .i64 y.den,.slice ya y.subs.length yc]);have HO5:=lH (hO4.below hal);have HY5:=lH (hY4.below hal)
    have HE5:=lH (hE4.below hal);have HA5:=lH (hA4.below hal);have HG5:=lH (hG4.below hal);have HC5:=lH (hC3.below hal);have HB5:=lH (hB4.trans (hal.mono hB4.size));have hbs:E+1≤(w4.alloc (.cells #[.int .i64 y.kind,.string y.name,.string y.more,.int .i64 y.num,.int .i64 y.den,.slice ya y.subs.length yc] 60)).heap.size:=HE5.o.lt;obtain ⟨n0,n1,n2,n3,n4,n5,nl⟩:=zCv hN4;have e5:=hE4.cell (i:=5) (v:=vv) rfl;have el:=hE4.lt;clear hm3 hC2 hC3 hN hN4 hO4 hY4 hE4 hA4 hG4 hB4 hal HO2 HY2 HE2 HA2 HG2 HB2
    go_wp2_with (at_builtin;refine zNh (y:=y) (ya:=ya) (yc:=yc) rfl _ _ rfl rfl HO5.o rfl (by exact HYB.o) HY5.o hmx hbs ?_;rintro v' w5 ho5 hm5;obtain ⟨a4,c4,hv4,-,-⟩:=ho5.val;rw [List.length_append,hLi] at hv4;have hv5:v'=.slice a4 (i+1) c4:=hv4;clear hv4;subst hv5;replace hm5:Mod vv.ownBlock.toList _ w5:=hm5;have hge:∀k,k∈vv.ownBlock.toList→E+1≤k:=fun k hk=>HO5.o.ge (by simpa using hk);have HE6:=lH (CBox.mod HE5.o hm5 (fun h=>by have:=hge _ h;omega));have x5:=HE6.o.cell (i:=5) (v:=vv) rfl;have xf:=HE6.o.frozen 5;have xl:=HE6.o.lt;clear e5 el n0 n1 n2 n3 n4 n5 nl)
    have hE7:CBox (w5.setCell ⟨E,5,none⟩ (.slice a4 (i+1) c4)) E 60 #[.int .i64 ka,.string tb,.string tc,.int .i64 un,.int .i64 kg,.slice a4 (i+1) c4]:=HE6.o.set 5 _;have hm7:Mod [E] w5 (w5.setCell ⟨E,5,none⟩ (.slice a4 (i+1) c4)):=zBx _ _ _ _;generalize World.setCell _ ⟨E,5,none⟩ _=w7 at *;have HE7:=lH hE7;have HA7:=lH (CBox.mod (CBox.mod HA5.o hm5 (fun h=>by have:=hge _ h;omega)) hm7 zAe);have HG7:=lH (CBox.mod (CBox.mod HG5.o hm5 (fun h=>by have:=hge _ h;omega)) hm7 zAe)
    have HC7:=lH (CBox.mod (CBox.mod HC5.o hm5 (fun h=>by have:=hge _ h;omega)) hm7 zAe);have hB6:=HB5.o.trans (hm5.upto HB5.o.size (fun g hg=>by have:=hge _ hg;rw [HWC.o];omega));have HB7:=zAm hB6 hm7 HWC;have HO7:=lH (ho5.mod (hm7.mono (fun k hk=>by rw [List.mem_singleton.1 hk];exact HYA.o.2.2.2.1)) (fun k hk hX=>by have h1:=ho5.ge hk;have:=HYA.o.2.2.2.2.2 k hX;omega))
    have HR7:Hid (qdL (qdX f) kk s16=((L++[y])++(qdL (qdX f) (kk - (i+1)) sn).1,(qdL (qdX f) (kk - (i+1)) sn).2)):=by
     show _=_
     rw [HRR.o,HST.o,List.append_assoc];rfl
    have hlen:(L++[y]).length=i+1:=by rw [List.length_append,hLi];rfl
    clear hE7 hm7 hB6 hm5 ho5 hge HO5 HY5 HE5 HA5 HG5 HC5 HB5 HE6 HYB HRR HST x5 xf xl hd1 hd2;go_roundw
    case rel=>exact ⟨i+1,.slice a4 (i+1) c4,L++[y],sn,by omega,by go_num,hlen,hsn,hsnl,hbnn,HR7,HO7,HE7,HC7,HA7,HG7,HB7⟩
    case measure=>simp [intOf];omega
   ·have HL0:Hid (qdL (qdX f) kk s16=(L,sr)):=by
     show _=_
     rw [HRR.o,zUu (by rcases Nat.lt_or_ge i kk with h|h;exact .inr (by cases hb:sr.bad with|true=>rfl|false=>exact absurd ⟨h,hb⟩ hgo);exact .inl (by omega)),List.append_nil]
    obtain ⟨va,vc,rfl,hvc1,hvc2⟩:=HO.o.val;have HVC:Hid (L.length≤vc∧vc≤9223372036854775807):=⟨hvc1,hvc2⟩;have HP2:Hid (P=(.mk ka tb tc un kg L,sr)):=by show _=_;rw [HPP,HL0.o]
    have HQ:Hid (if i<kk then sr.bad=true else True):=by
     show if _ then _ else _
     split
     ·cases hb:sr.bad with
      | true=>rfl
      | false=>exact absurd ⟨by assumption,hb⟩ hgo
     ·trivial
    have HFI:Hid (XIn wr Y (.mk ka tb tc un kg L) va vc):=⟨HO.o.reads (fun k hk hX=>by have h1:=HO.o.ge hk;have:=HYA.o.2.2.2.2.2 k hX;omega),HVC.o.1,HVC.o.2⟩;have HE2:=HE;have HC2:=HC;have HA2:=HA;have HG2:=HG;have HB2:=HB;clear hvc1 hvc2 HRR HPP HL0 HO hgo hLi HE HC HA HG HB hbn hsr hsl;generalize wr=w2 at *
    by_cases hi:i<kk
    ·have hd1:decide ((i:Int)<(kk:Int))=true:=decide_eq_true (by omega)
     have hd2:decide (i<kk)=true:=decide_eq_true hi;have hq:=HQ.o;rw [if_pos hi] at hq;rw [hq] at c2;go_upto_region 21 with (fail)
     clear c0 c1 c2 cl hq hd1 hd2 hi HQ;obtain ⟨e0,e1,e2,e3,e4,e5,el⟩:=zCv HE2.o;obtain ⟨c0,c1,c2,cl⟩:=zAh HC2.o;obtain ⟨a0,a1,a2,a3,a4,a5,al⟩:=zCv HA2.o;obtain ⟨b0,b1,b2,b3,b4,b5⟩:=zNl HA2.o;obtain ⟨g0,g1,g2,gl⟩:=zAh HG2.o;obtain ⟨h0,h1,h2⟩:=zAu HG2.o
     go_region
     all_goals go_wp2
     all_goals clear e0 a0 b0 e1 a1 b1 e2 a2 b2 e3 a3 b3 e4 a4 b4 e5 a5 b5 c0 g0 h0 c1 g1 h1 c2 g2 h2 el cl al gl
     all_goals (
      obtain ⟨hp1,hp2⟩:=CBox.sixes HA2.o (.int .i64 ka) (.string tb) (.string tc) (.int .i64 un) (.int .i64 kg) (.slice va L.length vc);have hg1:=CBox.mod HG2.o hp2 zAe;obtain ⟨hg2,hm2⟩:=CBox.threes hg1 (.string ⟨sr.rest.toArray⟩) (.int .i64 sr.left) (.bool sr.bad);have hp3:=CBox.below (CBox.mod hp1 hm2 zAe) (Mod.refl [] _).drew.below;have hg3:=CBox.below hg2 (Mod.refl [] _).drew.below;obtain ⟨r0,r1,r2,r3,r4,r5,-⟩:=zCv hp3;obtain ⟨s0,s1,s2,-⟩:=zAh hg3
      have hz1:=HB2.o.trans (hp2.upto HB2.o.size (fun g hg=>by rw [List.mem_singleton.1 hg,HWC.o];omega));have hz2:=hz1.trans (hm2.upto hz1.size (fun g hg=>by rw [List.mem_singleton.1 hg,HWC.o];omega));have hz:=hz2.trans ((Mod.refl [] _).drew.below.mono hz2.size)
      (try simp only [Exit.inBlock,Exit.then])
      refine bodyPost_ret (by simp [results,Tryz.results168,go_sem,r0,r1,r2,r3,r4,r5,s0,s1,s2];try rfl) rfl ?_;refine ⟨va,vc,by rw [HP2.o];rfl,hz,?_⟩;rw [HP2.o]
      exact ((HFI.o.mod (hp2.mono (fun k hk=>by rw [List.mem_singleton.1 hk];exact HYA.o.2.1))).mod (hm2.mono (fun k hk=>by rw [List.mem_singleton.1 hk];exact HYA.o.2.2.1))).below (Mod.refl [] _).drew.below |>.fewer (fun k hk=>HYA.o.2.2.2.2.1 k hk))
    ·have hd1:decide ((i:Int)<(kk:Int))=false:=decide_eq_false (by omega)
     have hd2:decide (i<kk)=false:=decide_eq_false hi;go_upto_region 21 with (fail)
     clear c0 c1 c2 cl hd1 hd2 hi HQ;obtain ⟨e0,e1,e2,e3,e4,e5,el⟩:=zCv HE2.o;obtain ⟨c0,c1,c2,cl⟩:=zAh HC2.o;obtain ⟨a0,a1,a2,a3,a4,a5,al⟩:=zCv HA2.o;obtain ⟨b0,b1,b2,b3,b4,b5⟩:=zNl HA2.o;obtain ⟨g0,g1,g2,gl⟩:=zAh HG2.o;obtain ⟨h0,h1,h2⟩:=zAu HG2.o
     go_region
     all_goals go_wp2
     all_goals clear e0 a0 b0 e1 a1 b1 e2 a2 b2 e3 a3 b3 e4 a4 b4 e5 a5 b5 c0 g0 h0 c1 g1 h1 c2 g2 h2 el cl al gl
     all_goals (
      obtain ⟨hp1,hp2⟩:=CBox.sixes HA2.o (.int .i64 ka) (.string tb) (.string tc) (.int .i64 un) (.int .i64 kg) (.slice va L.length vc);have hg1:=CBox.mod HG2.o hp2 zAe;obtain ⟨hg2,hm2⟩:=CBox.threes hg1 (.string ⟨sr.rest.toArray⟩) (.int .i64 sr.left) (.bool sr.bad);have hp3:=CBox.below (CBox.mod hp1 hm2 zAe) (Mod.refl [] _).drew.below;have hg3:=CBox.below hg2 (Mod.refl [] _).drew.below;obtain ⟨r0,r1,r2,r3,r4,r5,-⟩:=zCv hp3;obtain ⟨s0,s1,s2,-⟩:=zAh hg3
      have hz1:=HB2.o.trans (hp2.upto HB2.o.size (fun g hg=>by rw [List.mem_singleton.1 hg,HWC.o];omega));have hz2:=hz1.trans (hm2.upto hz1.size (fun g hg=>by rw [List.mem_singleton.1 hg,HWC.o];omega));have hz:=hz2.trans ((Mod.refl [] _).drew.below.mono hz2.size)
      (try simp only [Exit.inBlock,Exit.then])
      refine bodyPost_ret (by simp [results,Tryz.results168,go_sem,r0,r1,r2,r3,r4,r5,s0,s1,s2];try rfl) rfl ?_;refine ⟨va,vc,by rw [HP2.o];rfl,hz,?_⟩;rw [HP2.o]
      exact ((HFI.o.mod (hp2.mono (fun k hk=>by rw [List.mem_singleton.1 hk];exact HYA.o.2.1))).mod (hm2.mono (fun k hk=>by rw [List.mem_singleton.1 hk];exact HYA.o.2.2.1))).below (Mod.refl [] _).drew.below |>.fewer (fun k hk=>HYA.o.2.2.2.2.1 k hk))
theorem CBox.elevK {w:World} {B:Nat} {t:TypeId} {a0 a1 a2 a3 a4 a5 a6 a7 a8 a9 a10:Value} (h:CBox w B t #[a0,a1,a2,a3,a4,a5,a6,a7,a8,a9,a10]) (v0 v1 v2 v3 v4 v5 v6 v7 v8 v9 v10:Value) :
  CBox (((((((((((w.setCell ⟨B,0,none⟩ (v0)).setCell ⟨B,1,none⟩ (v1)).setCell ⟨B,2,none⟩ (v2)).setCell ⟨B,3,none⟩ (v3)).setCell ⟨B,4,none⟩ (v4)).setCell ⟨B,5,none⟩ (v5)).setCell ⟨B,6,none⟩ (v6)).setCell ⟨B,7,none⟩ (v7)).setCell ⟨B,8,none⟩ (v8)).setCell ⟨B,9,none⟩ (v9)).setCell ⟨B,10,none⟩ (v10)) B t #[v0,v1,v2,v3,v4,v5,v6,v7,v8,v9,v10]∧Mod [B] w (((((((((((w.setCell ⟨B,0,none⟩ (v0)).setCell ⟨B,1,none⟩ (v1)).setCell ⟨B,2,none⟩ (v2)).setCell ⟨B,3,none⟩ (v3)).setCell ⟨B,4,none⟩ (v4)).setCell ⟨B,5,none⟩ (v5)).setCell ⟨B,6,none⟩ (v6)).setCell ⟨B,7,none⟩ (v7)).setCell ⟨B,8,none⟩ (v8)).setCell ⟨B,9,none⟩ (v9)).setCell ⟨B,10,none⟩ (v10)):=by
 have h0:CBox _ B t #[v0,a1,a2,a3,a4,a5,a6,a7,a8,a9,a10]:=h.set 0 v0;have h1:CBox _ B t #[v0,v1,a2,a3,a4,a5,a6,a7,a8,a9,a10]:=h0.set 1 v1;have h2:CBox _ B t #[v0,v1,v2,a3,a4,a5,a6,a7,a8,a9,a10]:=h1.set 2 v2;have h3:CBox _ B t #[v0,v1,v2,v3,a4,a5,a6,a7,a8,a9,a10]:=h2.set 3 v3;have h4:CBox _ B t #[v0,v1,v2,v3,v4,a5,a6,a7,a8,a9,a10]:=h3.set 4 v4;have h5:CBox _ B t #[v0,v1,v2,v3,v4,v5,a6,a7,a8,a9,a10]:=h4.set 5 v5;have h6:CBox _ B t #[v0,v1,v2,v3,v4,v5,v6,a7,a8,a9,a10]:=h5.set 6 v6
 have h7:CBox _ B t #[v0,v1,v2,v3,v4,v5,v6,v7,a8,a9,a10]:=h6.set 7 v7;have h8:CBox _ B t #[v0,v1,v2,v3,v4,v5,v6,v7,v8,a9,a10]:=h7.set 8 v8;have h9:CBox _ B t #[v0,v1,v2,v3,v4,v5,v6,v7,v8,v9,a10]:=h8.set 9 v9;have hB:∀o:Nat,(⟨B,o,none⟩:Addr).block∈[B]:=fun _=>List.mem_singleton.2 rfl
 exact ⟨h9.set 10 v10,(((((((((((Mod.refl [B] w).setCell (hB 0) v0).setCell (hB 1) v1).setCell (hB 2) v2).setCell (hB 3) v3).setCell (hB 4) v4).setCell (hB 5) v5).setCell (hB 6) v6).setCell (hB 7) v7).setCell (hB 8) v8).setCell (hB 9) v9).setCell (hB 10) v10⟩
theorem zIg:∀d,d≤41→QrX d
 | 0,h=>zLh 0 h (fun f e=>by omega)
 | d+1,h=>zLh (d+1) h (fun f e=>by rw [show f=d by omega];exact zIg d (by omega))
structure DIn (w:World) (X:List Nat) (d:ODecl) (an:Option Addr) (cn:Nat) (sa:Option Addr) (cs:Nat):Prop where
  names:Reads w X (strsT d.names) (.slice an d.names.length cn)
  subs:Reads w X (subsT d.body.subs) (.slice sa d.body.subs.length cs)
  hn1:d.names.length≤cn
  hn2:cn≤9223372036854775807
  hs1:d.body.subs.length≤cs
  hs2:cs≤9223372036854775807
theorem DIn.mod {w w':World} {X:List Nat} {d:ODecl} {an:Option Addr} {cn:Nat} {sa:Option Addr} {cs:Nat} (h:DIn w X d an cn sa cs) (m:Mod X w w'):DIn w' X d an cn sa cs:=⟨h.names.mod m,h.subs.mod m,h.hn1,h.hn2,h.hs1,h.hs2⟩
theorem DIn.below {w w':World} {X:List Nat} {d:ODecl} {an:Option Addr} {cn:Nat} {sa:Option Addr} {cs:Nat} (h:DIn w X d an cn sa cs) (m:Bw w w'):DIn w' X d an cn sa cs:=⟨h.names.below m,h.subs.below m,h.hn1,h.hn2,h.hs1,h.hs2⟩
theorem DIn.fewer {w:World} {X Y:List Nat} {d:ODecl} {an:Option Addr} {cn:Nat} {sa:Option Addr} {cs:Nat} (h:DIn w X d an cn sa cs) (hs:∀k,k∈Y→k∈X):DIn w Y d an cn sa cs:=⟨h.names.fewer hs,h.subs.fewer hs,h.hn1,h.hn2,h.hs1,h.hs2⟩
theorem zXc (s:Sq) (X:List Nat) (w:World) (hs:s.rest.length≤1000000) (hle:s.left≤1000000) (hX:∀k∈X,k<w.heap.size) :
  Calls Tryz.prog 119 #[SqV s] w fun e w'=>∃an cn sa cs,e=.returned (.tuple #[declV (qdD s).1 an cn sa cs,SqV (qdD s).2])∧Bw w w'∧DIn w' X (qdD s).1 an cn sa cs:=by
 have HXW:=lH hX;have HPP:qdD s=(let a:=qdN s;let b:=qdN a.2;let c:=qdN b.2;let d:=qdN c.2;let n:=qdN d.2;let l:=qdL qdT n.1.toNat n.2;let x:=qdX 41 ⟨l.2.rest,400,l.2.bad⟩;((⟨a.1,b.1,c.1==1,l.1,d.1==1,x.1⟩:ODecl),x.2)):=rfl;clear hX;generalize qdD s=P at *;have h1:=zAa w (.cells #[.string ⟨s.rest.toArray⟩,.int .i64 s.left,.bool s.bad] 103);have h2:=zAa (w.alloc (.cells #[.string ⟨s.rest.toArray⟩,.int .i64 s.left,.bool s.bad] 103)) (.cells dZ 62)
 have h3:=zAa ((w.alloc (.cells #[.string ⟨s.rest.toArray⟩,.int .i64 s.left,.bool s.bad] 103)).alloc (.cells dZ 62)) (.cells #[.string ⟨#[]⟩,.int .i64 0,.bool false] 103);have hC:=CBox.below (CBox.below (CBox.new w 103 #[.string ⟨s.rest.toArray⟩,.int .i64 s.left,.bool s.bad]) h2) h3
 have hA:CBox (((w.alloc (.cells #[.string ⟨s.rest.toArray⟩,.int .i64 s.left,.bool s.bad] 103)).alloc (.cells dZ 62)).alloc (.cells #[.string ⟨#[]⟩,.int .i64 0,.bool false] 103)) (w.heap.size+1) 62 dZ:=by
  have:=CBox.new (w.alloc (.cells #[.string ⟨s.rest.toArray⟩,.int .i64 s.left,.bool s.bad] 103)) 62 dZ;rw [World.size_alloc] at this;exact CBox.below this h3
 have hG:CBox (((w.alloc (.cells #[.string ⟨s.rest.toArray⟩,.int .i64 s.left,.bool s.bad] 103)).alloc (.cells dZ 62)).alloc (.cells #[.string ⟨#[]⟩,.int .i64 0,.bool false] 103)) (w.heap.size+1+1) 103 #[.string ⟨#[]⟩,.int .i64 0,.bool false]:=by
  have:=CBox.new ((w.alloc (.cells #[.string ⟨s.rest.toArray⟩,.int .i64 s.left,.bool s.bad] 103)).alloc (.cells dZ 62)) 103 #[.string ⟨#[]⟩,.int .i64 0,.bool false];rw [World.size_alloc,World.size_alloc] at this;exact this
 have HB0:=lH (zA (zA h1 h2) h3);clear h1 h2 h3;unfold SqV
 go_enter Tryz.func119,Tryz.ntmps119
 go_upto_region 1 with (fail)
 generalize ((w.alloc (.cells #[.string ⟨s.rest.toArray⟩,.int .i64 s.left,.bool s.bad] 103)).alloc (.cells dZ 62)).alloc (.cells #[.string ⟨#[]⟩,.int .i64 0,.bool false] 103)=w0 at *;obtain ⟨C,hCe⟩:∃C,w.heap.size=C:=⟨_,rfl⟩;obtain ⟨A,hAe⟩:∃A,C+1=A:=⟨_,rfl⟩;obtain ⟨G,hGe⟩:∃G,A+1=G:=⟨_,rfl⟩;rw [hCe] at hC hA hG ⊢;rw [hAe] at hA hG ⊢;rw [hGe] at hG ⊢;have HWC:Hid (w.heap.size=C):=hCe;have hE:=CBox.new w0 62 dZ;have hal:=zAa w0 (.cells dZ 62);have hGl:=hG.lt;have hC1:=hC.below hal;have hA1:=hA.below hal
 have hG1:=hG.below hal;have HB1:Hid (Bw w (w0.alloc (.cells dZ 62))):=HB0.o.trans (hal.mono HB0.o.size);obtain ⟨E,hEe⟩:∃E,w0.heap.size=E:=⟨_,rfl⟩;rw [hEe] at hE hGl;have hCA:C<A:=by omega
 have hAG:A<G:=by omega
 have hGE:G<E:=hGl;clear hC hA hG hal hCe hAe hGe hGl HB0;have HE0:=lH hE;have HC0:=lH hC1;have HA0:=lH hA1;have HG0:=lH hG1;have HB0:=HB1;clear hE hC1 hA1 hG1 HB1;go_upto_region 2 with (fail)
 (try rw [hEe])
 clear hEe;generalize World.alloc w0 _=v0 at *;have hCE:C<E:=by omega
 have hCG:C<G:=by omega
 have hAE:A<E:=by omega
 obtain ⟨s0,hs0⟩:∃s0,s=s0:=⟨_,rfl⟩;rw [hs0] at hs hle HC0 HPP;have hr0:=hs;have ht0:=hle;clear hs0 hs hle;have hx11:=zAn s0;have hv11:=zCn s0;have HCA:=zBl s0 v0 hr0;obtain ⟨p11,hp11⟩:∃p,qdN s0=p:=⟨_,rfl⟩;rw [hp11] at HCA hx11 HPP hv11;obtain ⟨ka,s11⟩:=p11;unfold SqV at HCA;simp only at HCA hx11 HPP hv11
 have hr11:s11.rest.length≤1000000:=Nat.le_trans hx11.1 hr0;have ht11:s11.left≤1000000:=by have:=hx11.2.2;omega
 replace HCA:=lH HCA;clear hp11 hx11;obtain ⟨c0,c1,c2,cl⟩:=zAh HC0.o;go_wp2_with (fail)
 refine HCA.o.mono ?_;rintro e w11 ⟨rfl,hb11⟩;have hE:=HE0.o.below hb11;have hA:=HA0.o.below hb11;have hG:=HG0.o.below hb11;have hC:=HC0.o.below hb11;have hB:=HB0.o.trans (hb11.mono HB0.o.size);clear HCA hb11 c0 c1 c2 cl HE0 HA0 HG0 HC0 HB0;have e0:=hE.cell (i:=0) (v:=.int .i64 0) rfl;have ef:=hE.frozen 0;have el:=hE.lt;obtain ⟨c0,c1,c2,cl⟩:=zAh hC;obtain ⟨f0,f1,f2⟩:=zAu hC;go_upto_region 3 with (fail)
 clear c0 c1 c2 f0 f1 f2 cl e0 ef el;have hm1:Mod [E] w11 (w11.setCell ⟨E,0,none⟩ (.int .i64 ka)):=((Mod.refl [E] w11).setCell (p:=⟨E,0,none⟩) (List.mem_singleton.2 rfl) _);have hE1:CBox (w11.setCell ⟨E,0,none⟩ (.int .i64 ka)) E 62 #[.int .i64 ka,.int .i64 0,.bool false,.slice none 0 0,.bool false,.int .i64 0,.string ⟨#[]⟩,.string ⟨#[]⟩,.int .i64 0,.int .i64 0,.slice none 0 0]:=hE.set 0 _;have hC1:=CBox.mod hC hm1 zAe;have hA1:=CBox.mod hA hm1 zAe;have hG1:=CBox.mod hG hm1 zAe
 have hB1:=hB.trans (hm1.upto hB.size (fun g hg=>by rw [List.mem_singleton.1 hg,HWC.o];omega));clear hm1 hE hC hA hG hB;obtain ⟨hC2,hm2⟩:=CBox.threes hC1 (.string ⟨s11.rest.toArray⟩) (.int .i64 s11.left) (.bool s11.bad);generalize World.setCell _ ⟨C,2,none⟩ _=v11 at *;have HE11:=CBox.modh hE1 hm2;have HA11:=CBox.modh hA1 hm2;have HG11:=CBox.modh hG1 hm2;have HB11:=zAm hB1 hm2 HWC;have HC11:=lH hC2;clear hm2 hC1 hC2 hE1 hA1 hG1 hB1;have hx12:=zAn s11;have hv12:=zCn s11;have HCA:=zBl s11 v11 hr11
 obtain ⟨p12,hp12⟩:∃p,qdN s11=p:=⟨_,rfl⟩;rw [hp12] at HCA hx12 HPP hv12;obtain ⟨kb,s12⟩:=p12;unfold SqV at HCA;simp only at HCA hx12 HPP hv12
 have hr12:s12.rest.length≤1000000:=Nat.le_trans hx12.1 hr11;have ht12:s12.left≤1000000:=by have:=hx12.2.2;omega
 replace HCA:=lH HCA;clear hp12 hx12;obtain ⟨c0,c1,c2,cl⟩:=zAh HC11.o;go_wp2_with (fail)
 refine HCA.o.mono ?_;rintro e w12 ⟨rfl,hb12⟩;have hE:=HE11.o.below hb12;have hA:=HA11.o.below hb12;have hG:=HG11.o.below hb12;have hC:=HC11.o.below hb12;have hB:=HB11.o.trans (hb12.mono HB11.o.size);clear HCA hb12 c0 c1 c2 cl HE11 HA11 HG11 HC11 HB11;have e1:=hE.cell (i:=1) (v:=.int .i64 0) rfl;have ef:=hE.frozen 1;have el:=hE.lt;obtain ⟨c0,c1,c2,cl⟩:=zAh hC;obtain ⟨f0,f1,f2⟩:=zAu hC;go_upto_region 4 with (fail)
 clear c0 c1 c2 f0 f1 f2 cl e1 ef el;have hm1:Mod [E] w12 (w12.setCell ⟨E,1,none⟩ (.int .i64 kb)):=((Mod.refl [E] w12).setCell (p:=⟨E,1,none⟩) (List.mem_singleton.2 rfl) _);have hE1:CBox (w12.setCell ⟨E,1,none⟩ (.int .i64 kb)) E 62 #[.int .i64 ka,.int .i64 kb,.bool false,.slice none 0 0,.bool false,.int .i64 0,.string ⟨#[]⟩,.string ⟨#[]⟩,.int .i64 0,.int .i64 0,.slice none 0 0]:=hE.set 1 _;have hC1:=CBox.mod hC hm1 zAe;have hA1:=CBox.mod hA hm1 zAe;have hG1:=CBox.mod hG hm1 zAe
 have hB1:=hB.trans (hm1.upto hB.size (fun g hg=>by rw [List.mem_singleton.1 hg,HWC.o];omega));clear hm1 hE hC hA hG hB;obtain ⟨hC2,hm2⟩:=CBox.threes hC1 (.string ⟨s12.rest.toArray⟩) (.int .i64 s12.left) (.bool s12.bad);generalize World.setCell _ ⟨C,2,none⟩ _=v12 at *;have HE12:=CBox.modh hE1 hm2;have HA12:=CBox.modh hA1 hm2;have HG12:=CBox.modh hG1 hm2;have HB12:=zAm hB1 hm2 HWC;have HC12:=lH hC2;clear hm2 hC1 hC2 hE1 hA1 hG1 hB1;have hx13:=zAn s12;have hv13:=zCn s12;have HCA:=zBl s12 v12 hr12
 obtain ⟨p13,hp13⟩:∃p,qdN s12=p:=⟨_,rfl⟩;rw [hp13] at HCA hx13 HPP hv13;obtain ⟨kp,s13⟩:=p13;unfold SqV at HCA;simp only at HCA hx13 HPP hv13
 have hr13:s13.rest.length≤1000000:=Nat.le_trans hx13.1 hr12;have ht13:s13.left≤1000000:=by have:=hx13.2.2;omega
 replace HCA:=lH HCA;clear hp13 hx13;obtain ⟨c0,c1,c2,cl⟩:=zAh HC12.o;go_wp2_with (fail)
 refine HCA.o.mono ?_;rintro e w13 ⟨rfl,hb13⟩;have hE:=HE12.o.below hb13;have hA:=HA12.o.below hb13;have hG:=HG12.o.below hb13;have hC:=HC12.o.below hb13;have hB:=HB12.o.trans (hb13.mono HB12.o.size);clear HCA hb13 c0 c1 c2 cl HE12 HA12 HG12 HC12 HB12;obtain ⟨c0,c1,c2,cl⟩:=zAh hC;obtain ⟨f0,f1,f2⟩:=zAu hC;go_upto_region 5 with (fail)
 clear c0 c1 c2 f0 f1 f2 cl;have hE1:=hE;have hC1:=hC;have hA1:=hA;have hG1:=hG;have hB1:=hB;clear hE hC hA hG hB;obtain ⟨hC2,hm2⟩:=CBox.threes hC1 (.string ⟨s13.rest.toArray⟩) (.int .i64 s13.left) (.bool s13.bad);generalize World.setCell _ ⟨C,2,none⟩ _=v13 at *;have HE13:=CBox.modh hE1 hm2;have HA13:=CBox.modh hA1 hm2;have HG13:=CBox.modh hG1 hm2;have HB13:=zAm hB1 hm2 HWC;have HC13:=lH hC2;clear hm2 hC1 hC2 hE1 hA1 hG1 hB1;have hx14:=zAn s13;have hv14:=zCn s13;have HCA:=zBl s13 v13 hr13
 obtain ⟨p14,hp14⟩:∃p,qdN s13=p:=⟨_,rfl⟩;rw [hp14] at HCA hx14 HPP hv14;obtain ⟨kd,s14⟩:=p14;unfold SqV at HCA;simp only at HCA hx14 HPP hv14
 have hr14:s14.rest.length≤1000000:=Nat.le_trans hx14.1 hr13;have ht14:s14.left≤1000000:=by have:=hx14.2.2;omega
 replace HCA:=lH HCA;clear hp14 hx14;obtain ⟨c0,c1,c2,cl⟩:=zAh HC13.o;go_wp2_with (fail)
 refine HCA.o.mono ?_;rintro e w14 ⟨rfl,hb14⟩;have hE:=HE13.o.below hb14;have hA:=HA13.o.below hb14;have hG:=HG13.o.below hb14;have hC:=HC13.o.below hb14;have hB:=HB13.o.trans (hb14.mono HB13.o.size);clear HCA hb14 c0 c1 c2 cl HE13 HA13 HG13 HC13 HB13;obtain ⟨c0,c1,c2,cl⟩:=zAh hC;obtain ⟨f0,f1,f2⟩:=zAu hC;go_upto_region 6 with (fail)
 clear c0 c1 c2 f0 f1 f2 cl;have hE1:=hE;have hC1:=hC;have hA1:=hA;have hG1:=hG;have hB1:=hB;clear hE hC hA hG hB;obtain ⟨hC2,hm2⟩:=CBox.threes hC1 (.string ⟨s14.rest.toArray⟩) (.int .i64 s14.left) (.bool s14.bad);generalize World.setCell _ ⟨C,2,none⟩ _=v14 at *;have HE14:=CBox.modh hE1 hm2;have HA14:=CBox.modh hA1 hm2;have HG14:=CBox.modh hG1 hm2;have HB14:=zAm hB1 hm2 HWC;have HC14:=lH hC2;clear hm2 hC1 hC2 hE1 hA1 hG1 hB1;have e2:=HE14.o.cell (i:=2) (v:=.bool false) rfl;have e4:=HE14.o.cell (i:=4) (v:=.bool false) rfl
 have f2:=HE14.o.frozen 2;have f4:=HE14.o.frozen 4;have el:=HE14.o.lt;go_upto_region 7 with (fail)
 clear e2 e4 f2 f4 el;have hm1:Mod [E] v14 ((v14.setCell ⟨E,2,none⟩ (.bool (kp==1))).setCell ⟨E,4,none⟩ (.bool (kd==1))):=(((Mod.refl [E] v14).setCell (p:=⟨E,2,none⟩) (List.mem_singleton.2 rfl) _).setCell (p:=⟨E,4,none⟩) (List.mem_singleton.2 rfl) _);have hE1:CBox ((v14.setCell ⟨E,2,none⟩ (.bool (kp==1))).setCell ⟨E,4,none⟩ (.bool (kd==1))) E 62 #[.int .i64 ka,.int .i64 kb,.bool (kp==1),.slice none 0 0,.bool (kd==1),.int .i64 0,.string ⟨#[]⟩,.string ⟨#[]⟩,.int .i64 0,.int .i64 0,.slice none 0 0]:=((HE14.o.set 2 _).set 4 _)
 generalize World.setCell _ ⟨E,4,none⟩ _=vq at *;have HEq:=lH hE1;have HAq:=CBox.modh HA14.o hm1;have HGq:=CBox.modh HG14.o hm1;have HCq:=CBox.modh HC14.o hm1;have HBq:=zAm HB14.o hm1 HWC;obtain ⟨sq,hsq⟩:∃sq,s14=sq:=⟨_,rfl⟩;rw [hsq] at hr14 ht14 HCq HPP;have hrq:=hr14;have htq:=ht14;clear hm1 hE1 HE14 HA14 HG14 HC14 HB14 hsq hr14 ht14;have hx16:=zAn sq;have hv16:=zCn sq;have HCA:=zBl sq vq hrq;obtain ⟨p16,hp16⟩:∃p,qdN sq=p:=⟨_,rfl⟩;rw [hp16] at HCA hx16 HPP hv16;obtain ⟨kkI,s16⟩:=p16
 unfold SqV at HCA;simp only at HCA hx16 HPP hv16
 have hr16:s16.rest.length≤1000000:=Nat.le_trans hx16.1 hrq;have ht16:s16.left≤1000000:=by have:=hx16.2.2;omega
 replace HCA:=lH HCA;clear hp16 hx16;obtain ⟨c0,c1,c2,cl⟩:=zAh HCq.o;go_wp2_with (fail)
 refine HCA.o.mono ?_;rintro e w16 ⟨rfl,hb16⟩;have hE:=HEq.o.below hb16;have hA:=HAq.o.below hb16;have hG:=HGq.o.below hb16;have hC:=HCq.o.below hb16;have hB:=HBq.o.trans (hb16.mono HBq.o.size);clear HCA hb16 c0 c1 c2 cl HEq HAq HGq HCq HBq;obtain ⟨c0,c1,c2,cl⟩:=zAh hC;obtain ⟨f0,f1,f2⟩:=zAu hC;go_upto_region 8 with (fail)
 clear c0 c1 c2 f0 f1 f2 cl;have hE1:=hE;have hC1:=hC;have hA1:=hA;have hG1:=hG;have hB1:=hB;clear hE hC hA hG hB;obtain ⟨hC2,hm2⟩:=CBox.threes hC1 (.string ⟨s16.rest.toArray⟩) (.int .i64 s16.left) (.bool s16.bad);generalize World.setCell _ ⟨C,2,none⟩ _=v16 at *;have HE16:=CBox.modh hE1 hm2;have HA16:=CBox.modh hA1 hm2;have HG16:=CBox.modh hG1 hm2;have HB16:=zAm hB1 hm2 HWC;have HC16:=lH hC2;clear hm2 hC1 hC2 hE1 hA1 hG1 hB1;obtain ⟨kk,rfl⟩:∃n:Nat,kkI=n:=⟨kkI.toNat,(Int.toNat_of_nonneg hv16.1).symm⟩;rw [Int.toNat_natCast] at HPP
 have hkk:kk≤1099511627776:=by omega
 obtain ⟨Y,hY⟩:∃Y,C::A::G::E::X=Y:=⟨_,rfl⟩
 have HYA:Hid (C∈Y∧A∈Y∧G∈Y∧E∈Y∧(∀k,k∈X→k∈Y)∧(∀k,k∈Y→k<E+1)):=by
  refine ⟨by rw [←hY];simp,by rw [←hY];simp,by rw [←hY];simp,by rw [←hY];simp,fun k hk=>by rw [←hY];simp [hk],fun k hk=>?_⟩;rw [←hY] at hk;simp only [List.mem_cons] at hk
  rcases hk with rfl|rfl|rfl|rfl|hk
  ·omega
  ·omega
  ·omega
  ·omega
  ·have h1:=HXW.o k hk
   rw [HWC.o] at h1;omega
 clear hY HXW hv11 hv12 hv13 hv14 hv16 hr0 hr11 hr12 hr13 hrq ht0 ht11 ht12 ht13 htq;have hbn:s16.bad=false→0+s16.rest.length≤1000000:=fun _=>by omega
 go_wp2
 go_loopw [8] (fun iv wr=>∃(i:Nat) (vv:Value) (L:List ByteArray) (sr:Sq),i≤kk∧iv=.int .i64 i∧L.length=i∧sr.rest.length≤1000000∧sr.left≤1000000∧(sr.bad=false→i+sr.rest.length≤1000000)∧Hid (qdL qdT kk s16=(L++(qdL qdT (kk - i) sr).1,(qdL qdT (kk - i) sr).2))∧Hid (OwnT wr Y (E+1) 9 1 (fun s=>[strT s]) vv L)∧Hid (CBox wr E 62 #[.int .i64 ka,.int .i64 kb,.bool (kp==1),vv,.bool (kd==1),.int .i64 0,.string ⟨#[]⟩,.string ⟨#[]⟩,.int .i64 0,.int .i64 0,.slice none 0 0])∧Hid (CBox wr C 103 #[.string ⟨sr.rest.toArray⟩,.int .i64 sr.left,.bool sr.bad])∧Hid (CBox wr A 62 dZ)∧Hid (CBox wr G 103 #[.string ⟨#[]⟩,.int .i64 0,.bool false])∧Hid (Bw w wr)) (fun iv _=>kk - (intOf iv).toNat)
 case atStart=>exact ⟨0,.slice none 0 0,[],s16,Nat.zero_le _,rfl,rfl,hr16,ht16,hbn,rfl,OwnT.nil _ _ _ _ _ _,HE16,HC16,HA16,HG16,HB16⟩
 case round=>
  clear HE16 HC16 HA16 HG16 HB16 hr16 ht16 hbn;obtain ⟨i,vv,L,sr,hik,rfl,hLi,hsr,hsl,hbn,HRR,HO,HE,HC,HA,HG,HB⟩:=hrel;obtain ⟨c0,c1,c2,cl⟩:=zAh HC.o
  by_cases hgo:i<kk∧sr.bad=false
  ·obtain ⟨hi,hsb⟩:=hgo
   have hbn2:=hbn hsb;rw [hsb] at c2;have hd1:decide ((i:Int)<(kk:Int))=true:=decide_eq_true (by omega);have hd2:decide (i<kk)=true:=decide_eq_true hi;have HCA:=zEi sr wr hsr;have HST:Hid (qdL qdT (kk - i) sr=((qdT sr).1::(qdL qdT (kk - (i+1)) (qdT sr).2).1,(qdL qdT (kk - (i+1)) (qdT sr).2).2)):=zUt hi hsb;have hn:=zBb sr;obtain ⟨p,hp⟩:∃p,qdT sr=p:=⟨_,rfl⟩;rw [hp] at HCA HST hn;obtain ⟨y,sn⟩:=p;unfold SqV at HCA;simp only at HCA HST hn
   rw [hsb] at HCA;have hsn:sn.rest.length≤1000000:=by omega
   have hsnl:sn.left≤1000000:=by have:=hn.2.2.1;omega
   have hbnn:sn.bad=false→(i+1)+sn.rest.length≤1000000:=fun h=>by have:=(hn.2.1 h).2;omega
   have hmx:L.length≤4000000:=by omega
   replace HCA:=lH HCA;clear hp hn hbn hbn2 hsr hsl hsb;go_wp2_with (fail)
   refine HCA.o.mono ?_;rintro e w1 ⟨rfl,hb1⟩;clear HCA c0 c1 c2 cl;go_upto_region 12 with (fail)
   have h2:=zAa w1 (.cells #[.string ⟨sn.rest.toArray⟩,.int .i64 sn.left,.bool sn.bad] 103);have hO:=CBox.new w1 103 #[.string ⟨sn.rest.toArray⟩,.int .i64 sn.left,.bool sn.bad];have hbb:=zA hb1 h2;have HO2:=lH (HO.o.below hbb);have HE2:=lH (CBox.below HE.o hbb);have HA2:=lH (CBox.below HA.o hbb);have HG2:=lH (CBox.below HG.o hbb);have hC2:=CBox.below HC.o hbb;have HB2:=lH (HB.o.trans (hbb.mono HB.o.size));have hEN:E<w1.heap.size:=Nat.lt_of_lt_of_le HE.o.lt hb1.size;clear h2 hb1 hbb HO HE HA HG HC HB
   generalize World.alloc w1 _=w3 at *;generalize w1.heap.size=N at *;obtain ⟨c0,c1,c2,cl⟩:=zAh hC2;obtain ⟨f0,f1,f2⟩:=zAu hC2;obtain ⟨o0,o1,o2,ol⟩:=zAh hO;go_upto_region 13 with (fail)
   clear c0 c1 c2 f0 f1 f2 cl o0 o1 o2 ol hO;obtain ⟨hC3,hm3⟩:=CBox.threes hC2 (.string ⟨sn.rest.toArray⟩) (.int .i64 sn.left) (.bool sn.bad);generalize World.setCell _ ⟨C,2,none⟩ _=w4 at *;have hO4:=HO2.o.mod (hm3.mono (fun k hk=>by rw [List.mem_singleton.1 hk];exact HYA.o.1)) (fun k hk hX=>by have h1:=HO2.o.ge hk;have:=HYA.o.2.2.2.2.2 k hX;omega);have hE4:=CBox.mod HE2.o hm3 zAe;have hA4:=CBox.mod HA2.o hm3 zAe;have hG4:=CBox.mod HG2.o hm3 zAe
   have hB4:=HB2.o.trans (hm3.upto HB2.o.size (fun g hg=>by rw [List.mem_singleton.1 hg,HWC.o];exact Nat.le_refl _));have hal:=zAa w4 (.cells #[.string y] 9);have HYB:=lH (CBox.new w4 9 #[.string y]);have HO5:=lH (hO4.below hal);have HE5:=lH (hE4.below hal);have HA5:=lH (hA4.below hal);have HG5:=lH (hG4.below hal);have HC5:=lH (hC3.below hal);have HB5:=lH (hB4.trans (hal.mono hB4.size));have hbs:E+1≤(w4.alloc (.cells #[.string y] 9)).heap.size:=HE5.o.lt;have e3:=hE4.cell (i:=3) (v:=vv) rfl;have el:=hE4.lt
   clear hm3 hC2 hC3 hO4 hE4 hA4 hG4 hB4 hal HO2 HE2 HA2 HG2 HB2
   go_wp2_with (at_builtin;refine zLe (y:=y) rfl _ _ rfl rfl HO5.o rfl (by exact HYB.o) hmx hbs ?_;rintro v' w5 ho5 hm5;obtain ⟨a4,c4,hv4,-,-⟩:=ho5.val;rw [List.length_append,hLi] at hv4;have hv5:v'=.slice a4 (i+1) c4:=hv4;clear hv4;subst hv5;replace hm5:Mod vv.ownBlock.toList _ w5:=hm5;have hge:∀k,k∈vv.ownBlock.toList→E+1≤k:=fun k hk=>HO5.o.ge (by simpa using hk);have HE6:=lH (CBox.mod HE5.o hm5 (fun h=>by have:=hge _ h;omega));have x5:=HE6.o.cell (i:=3) (v:=vv) rfl;have xf:=HE6.o.frozen 3;have xl:=HE6.o.lt;clear e3 el)
   have hE7:CBox (w5.setCell ⟨E,3,none⟩ (.slice a4 (i+1) c4)) E 62 #[.int .i64 ka,.int .i64 kb,.bool (kp==1),.slice a4 (i+1) c4,.bool (kd==1),.int .i64 0,.string ⟨#[]⟩,.string ⟨#[]⟩,.int .i64 0,.int .i64 0,.slice none 0 0]:=HE6.o.set 3 _;have hm7:Mod [E] w5 (w5.setCell ⟨E,3,none⟩ (.slice a4 (i+1) c4)):=zBx _ _ _ _;generalize World.setCell _ ⟨E,3,none⟩ _=w7 at *;have HE7:=lH hE7;have HA7:=lH (CBox.mod (CBox.mod HA5.o hm5 (fun h=>by have:=hge _ h;omega)) hm7 zAe)
   have HG7:=lH (CBox.mod (CBox.mod HG5.o hm5 (fun h=>by have:=hge _ h;omega)) hm7 zAe);have HC7:=lH (CBox.mod (CBox.mod HC5.o hm5 (fun h=>by have:=hge _ h;omega)) hm7 zAe);have hB6:=HB5.o.trans (hm5.upto HB5.o.size (fun g hg=>by have:=hge _ hg;rw [HWC.o];omega));have HB7:=zAm hB6 hm7 HWC;have HO7:=lH (ho5.mod (hm7.mono (fun k hk=>by rw [List.mem_singleton.1 hk];exact HYA.o.2.2.2.1)) (fun k hk hX=>by have h1:=ho5.ge hk;have:=HYA.o.2.2.2.2.2 k hX;omega))
   have HR7:Hid (qdL qdT kk s16=((L++[y])++(qdL qdT (kk - (i+1)) sn).1,(qdL qdT (kk - (i+1)) sn).2)):=by
    show _=_
    rw [HRR.o,HST.o,List.append_assoc];rfl
   have hlen:(L++[y]).length=i+1:=by rw [List.length_append,hLi];rfl
   clear hE7 hm7 hB6 hm5 ho5 hge HO5 HE5 HA5 HG5 HC5 HB5 HE6 HYB HRR HST x5 xf xl hd1 hd2;go_roundw
   case rel=>exact ⟨i+1,.slice a4 (i+1) c4,L++[y],sn,by omega,by go_num,hlen,hsn,hsnl,hbnn,HR7,HO7,HE7,HC7,HA7,HG7,HB7⟩
   case measure=>simp [intOf];omega
  ·have HL0:Hid (qdL qdT kk s16=(L,sr)):=by
    show _=_
    rw [HRR.o,zUu (by rcases Nat.lt_or_ge i kk with h|h;exact .inr (by cases hb:sr.bad with|true=>rfl|false=>exact absurd ⟨h,hb⟩ hgo);exact .inl (by omega)),List.append_nil]
   obtain ⟨va,vc,rfl,hvc1,hvc2⟩:=HO.o.val;have HVC:Hid (L.length≤vc∧vc≤9223372036854775807):=⟨hvc1,hvc2⟩;have HPQ:Hid (P=(⟨ka,kb,kp==1,L,kd==1,(qdX 41 ⟨sr.rest,400,sr.bad⟩).1⟩,(qdX 41 ⟨sr.rest,400,sr.bad⟩).2)):=by show _=_;rw [HPP,HL0.o]
   have HQ:Hid (if i<kk then sr.bad=true else True):=by
    show if _ then _ else _
    split
    ·cases hb:sr.bad with
     | true=>rfl
     | false=>exact absurd ⟨by assumption,hb⟩ hgo
    ·trivial
   have HNR:Hid (Reads wr Y (strsT L) (.slice va L.length vc)):=HO.o.reads (fun k hk hX=>by have h1:=HO.o.ge hk;have:=HYA.o.2.2.2.2.2 k hX;omega);have HE2:=HE;have HC2:=HC;have HA2:=HA;have HG2:=HG;have HB2:=HB;clear hvc1 hvc2 HRR HPP HL0 HO hgo hLi HE HC HA HG HB hbn hsl;generalize wr=w2 at *;have f1:=HC2.o.frozen 1
   by_cases hi:i<kk
   ·have hd1:decide ((i:Int)<(kk:Int))=true:=decide_eq_true (by omega)
    have hd2:decide (i<kk)=true:=decide_eq_true hi;have hq:=HQ.o;rw [if_pos hi] at hq;rw [hq] at c2;go_upto_region 15 with (fail)
    clear c0 c1 c2 cl f1 hq hd1 hd2 hi HQ;have hC3:CBox (w2.setCell ⟨C,1,none⟩ (.int .i64 400)) C 103 #[.string ⟨sr.rest.toArray⟩,.int .i64 400,.bool sr.bad]:=HC2.o.set 1 _;have hM3:Mod [C] w2 (w2.setCell ⟨C,1,none⟩ (.int .i64 400)):=zBx _ _ _ _;generalize World.setCell _ ⟨C,1,none⟩ _=v2 at *;have HE3:=CBox.modh HE2.o hM3;have HA3:=CBox.modh HA2.o hM3;have HG3:=CBox.modh HG2.o hM3;have HB3:=zAm HB2.o hM3 HWC;have HNR3:=lH (HNR.o.mod (hM3.mono (fun k hk=>by rw [List.mem_singleton.1 hk];exact HYA.o.1)))
    obtain ⟨st,hst⟩:∃st:Sq,(⟨sr.rest,400,sr.bad⟩:Sq)=st:=⟨_,rfl⟩
    have HC3:Hid (CBox v2 C 103 #[.string ⟨st.rest.toArray⟩,.int .i64 st.left,.bool st.bad]):=by
     show CBox _ _ _ _
     rw [←hst];exact hC3
    have hrt:st.rest.length≤1000000:=by rw [←hst];exact hsr
    have hlt:st.left≤1000000:=by rw [←hst];exact (by decide:400≤1000000)
    rw [hst] at HPQ;have hYs:∀k∈Y,k<v2.heap.size:=fun k hk=>by have h1:=HYA.o.2.2.2.2.2 k hk;have:=HE3.o.lt;omega
    have HCA:=zIg 41 (Nat.le_refl _) st Y v2 hrt hlt hYs;obtain ⟨px,hpx⟩:∃p,qdX 41 st=p:=⟨_,rfl⟩;rw [hpx] at HCA HPQ;obtain ⟨x,sx⟩:=px;unfold SqV exV at HCA;simp only at HCA HPQ
    replace HCA:=lH HCA;clear hst hC3 hM3 hYs hpx hrt hlt hsr HE2 HC2 HA2 HG2 HB2 HNR;obtain ⟨c0,c1,c2,cl⟩:=zAh HC3.o;go_wp2_with (fail)
    refine HCA.o.mono ?_;rintro e w6 ⟨xa,xc,rfl,hb6,hx6⟩;have hE:=HE3.o.below hb6;have hA:=HA3.o.below hb6;have hG:=HG3.o.below hb6;have hC:=HC3.o.below hb6;have hB:=HB3.o.trans (hb6.mono HB3.o.size);have hN:=HNR3.o.below hb6;clear HCA hb6 c0 c1 c2 cl HE3 HA3 HG3 HC3 HB3 HNR3;obtain ⟨-,-,-,-,-,e5,e6,e7,e8,e9,e10,el⟩:=zAz hE;obtain ⟨-,-,-,-,-,q5,q6,q7,q8,q9,q10⟩:=zEl hE;obtain ⟨c0,c1,c2,cl⟩:=zAh hC;obtain ⟨f0,f1,f2⟩:=zAu hC;go_upto_region 16 with (fail)
    clear e5 q5 e6 q6 e7 q7 e8 q8 e9 q9 e10 q10 el c0 c1 c2 f0 f1 f2 cl
    have hm1:Mod [E] w6 ((((((w6.setCell ⟨E,5,none⟩ (.int .i64 x.kind)).setCell ⟨E,6,none⟩ (.string x.name)).setCell ⟨E,7,none⟩ (.string x.more)).setCell ⟨E,8,none⟩ (.int .i64 x.num)).setCell ⟨E,9,none⟩ (.int .i64 x.den)).setCell ⟨E,10,none⟩ (.slice xa x.subs.length xc)):=(((((((Mod.refl [E] w6).setCell (p:=⟨E,5,none⟩) (List.mem_singleton.2 rfl) _).setCell (p:=⟨E,6,none⟩) (List.mem_singleton.2 rfl) _).setCell (p:=⟨E,7,none⟩) (List.mem_singleton.2 rfl) _).setCell (p:=⟨E,8,none⟩) (List.mem_singleton.2 rfl) _).setCell (p:=⟨E,9,none⟩) (List.mem_singleton.2 rfl) _).setCell (p:=⟨E,10,none⟩) (List.mem_singleton.2 rfl) _)
    have hE1:CBox ((((((w6.setCell ⟨E,5,none⟩ (.int .i64 x.kind)).setCell ⟨E,6,none⟩ (.string x.name)).setCell ⟨E,7,none⟩ (.string x.more)).setCell ⟨E,8,none⟩ (.int .i64 x.num)).setCell ⟨E,9,none⟩ (.int .i64 x.den)).setCell ⟨E,10,none⟩ (.slice xa x.subs.length xc)) E 62 #[.int .i64 ka,.int .i64 kb,.bool (kp==1),.slice va L.length vc,.bool (kd==1),.int .i64 x.kind,.string x.name,.string x.more,.int .i64 x.num,.int .i64 x.den,.slice xa x.subs.length xc]:=((((((hE.set 5 _).set 6 _).set 7 _).set 8 _).set 9 _).set 10 _);have hC1:=CBox.mod hC hm1 zAe
    have hA1:=CBox.mod hA hm1 zAe;have hG1:=CBox.mod hG hm1 zAe;have hB1:=hB.trans (hm1.upto hB.size (fun g hg=>by rw [List.mem_singleton.1 hg,HWC.o];omega));have hN1:=hN.mod (hm1.mono (fun k hk=>by rw [List.mem_singleton.1 hk];exact HYA.o.2.2.2.1));have hx1:=hx6.mod (hm1.mono (fun k hk=>by rw [List.mem_singleton.1 hk];exact HYA.o.2.2.2.1));clear hm1 hE hC hA hG hB hN hx6;obtain ⟨hC2,hm2⟩:=CBox.threes hC1 (.string ⟨sx.rest.toArray⟩) (.int .i64 sx.left) (.bool sx.bad);generalize World.setCell _ ⟨C,2,none⟩ _=w7 at *
    have HE2:=CBox.modh hE1 hm2;have HA2:=CBox.modh hA1 hm2;have HG2:=CBox.modh hG1 hm2;have HB2:=zAm hB1 hm2 HWC;have HC2:=lH hC2;have HN2:=lH (hN1.mod (hm2.mono (fun k hk=>by rw [List.mem_singleton.1 hk];exact HYA.o.1)));have HX2:=lH (hx1.mod (hm2.mono (fun k hk=>by rw [List.mem_singleton.1 hk];exact HYA.o.1)));clear hm2 hC1 hC2 hE1 hA1 hG1 hB1 hN1 hx1;have hD:=(Mod.refl [] w7).drew.below;have HE4:=lH (CBox.below HE2.o hD);have HC4:=lH (CBox.below HC2.o hD);have HA4:=lH (CBox.below HA2.o hD)
    have HG4:=lH (CBox.below HG2.o hD);have HB4:=lH (HB2.o.trans (hD.mono HB2.o.size));have HN4:=lH (HN2.o.below hD);have HX4:=lH (HX2.o.below hD);clear hD HE2 HC2 HA2 HG2 HB2 HN2 HX2
    refine wp_region_noPanic (zBe (fun W:World=>CBox W E 62 #[.int .i64 ka,.int .i64 kb,.bool (kp==1),.slice va L.length vc,.bool (kd==1),.int .i64 x.kind,.string x.name,.string x.more,.int .i64 x.num,.int .i64 x.den,.slice xa x.subs.length xc]∧CBox W C 103 #[.string ⟨sx.rest.toArray⟩,.int .i64 sx.left,.bool sx.bad]) 3 [(true,0),(true,1),(false,2)] zBm (by kernel_rfl) (fun _ _ _ _ _ h=>h) ⟨HE4.o,HC4.o⟩ ?_)
    refine zAy (v:=.agg #[.int .i64 ka,.int .i64 kb,.bool (kp==1),.slice va L.length vc,.bool (kd==1),.int .i64 x.kind,.string x.name,.string x.more,.int .i64 x.num,.int .i64 x.den,.slice xa x.subs.length xc]) rfl (by rfl) (fun wq hSw=>?_) ?_
    ·obtain ⟨hSw,-⟩:=hSw
     have e0:=hSw.cell (i:=0) (v:=.int .i64 ka) rfl;have e1:=hSw.cell (i:=1) (v:=.int .i64 kb) rfl;have e2:=hSw.cell (i:=2) (v:=.bool (kp==1)) rfl;have e3:=hSw.cell (i:=3) (v:=.slice va L.length vc) rfl;have e4:=hSw.cell (i:=4) (v:=.bool (kd==1)) rfl;have e5:=hSw.cell (i:=5) (v:=.int .i64 x.kind) rfl;have e6:=hSw.cell (i:=6) (v:=.string x.name) rfl;have e7:=hSw.cell (i:=7) (v:=.string x.more) rfl;have e8:=hSw.cell (i:=8) (v:=.int .i64 x.num) rfl;have e9:=hSw.cell (i:=9) (v:=.int .i64 x.den) rfl;have e10:=hSw.cell (i:=10) (v:=.slice xa x.subs.length xc) rfl;have el:=hSw.lt
     clear hSw
     go_simp
     (try with_reducible rfl)
    (try simp only [gA,gB,gC,Act.put,gD,gE,gF])
    refine zAy (v:=.agg #[.string ⟨sx.rest.toArray⟩,.int .i64 sx.left,.bool sx.bad]) rfl (by rfl) (fun wq hSw=>?_) ?_
    ·obtain ⟨-,hSw⟩:=hSw
     have c0:=hSw.cell (i:=0) (v:=.string ⟨sx.rest.toArray⟩) rfl;have c1:=hSw.cell (i:=1) (v:=.int .i64 sx.left) rfl;have c2:=hSw.cell (i:=2) (v:=.bool sx.bad) rfl;have cl:=hSw.lt;clear hSw
     go_simp
     (try with_reducible rfl)
    (try simp only [gA,gB,gC,Act.put,gD,gE,gF])
    generalize w7.drew=z0 at *;obtain ⟨a0,a1,a2,a3,a4,a5,a6,a7,a8,a9,a10,al⟩:=zAz HA4.o;obtain ⟨b0,b1,b2,b3,b4,b5,b6,b7,b8,b9,b10⟩:=zEl HA4.o
    (refine zBo rfl (by rfl) (fun K hK=>?_);go_simp)
    clear a0 b0 a1 b1 a2 b2 a3 b3 a4 b4 a5 b5 a6 b6 a7 b7 a8 b8 a9 b9 a10 b10 al;obtain ⟨hp1,hp2⟩:=CBox.elevK HA4.o (.int .i64 ka) (.int .i64 kb) (.bool (kp==1)) (.slice va L.length vc) (.bool (kd==1)) (.int .i64 x.kind) (.string x.name) (.string x.more) (.int .i64 x.num) (.int .i64 x.den) (.slice xa x.subs.length xc);refine hK.out _ _ ⟨CBox.mod HE4.o hp2 zAe,CBox.mod HC4.o hp2 zAe⟩ ?_;clear hK K;(try simp only [gA,gB,gC,Act.put,gD,gE,gF]);generalize World.setCell _ ⟨A,10,none⟩ _=z1 at *;have HG5:=CBox.modh HG4.o hp2
    have HB5:=zAm HB4.o hp2 HWC;have hY1:∀k∈[A],k∈Y:=fun k hk=>by rw [List.mem_singleton.1 hk];exact HYA.o.2.1
    have HN5:=lH (HN4.o.mod (hp2.mono hY1));have HX5:=lH (HX4.o.mod (hp2.mono hY1));have HA5:=lH hp1;clear hp1 hp2 hY1 HA4 HG4 HB4 HN4 HX4 HE4 HC4;refine zBy ?_;simp only [List.drop_succ_cons,List.drop_zero]
    obtain ⟨g0,g1,g2,gl⟩:=zAh HG5.o;obtain ⟨h0,h1,h2⟩:=zAu HG5.o;go_wp2;clear g0 g1 g2 h0 h1 h2 gl;obtain ⟨hg2,hm2⟩:=CBox.threes HG5.o (.string ⟨sx.rest.toArray⟩) (.int .i64 sx.left) (.bool sx.bad);generalize World.setCell _ ⟨G,2,none⟩ _=z2 at *;have HP5:=CBox.modh HA5.o hm2;have HQ5:=lH hg2;have HB6:=zAm HB5.o hm2 HWC;have hY2:∀k∈[G],k∈Y:=fun k hk=>by rw [List.mem_singleton.1 hk];exact HYA.o.2.2.1
    have HN6:=lH ((HN5.o.mod (hm2.mono hY2)).fewer (fun k hk=>HYA.o.2.2.2.2.1 k hk));have HX6:=lH ((HX5.o.mod (hm2.mono hY2)).fewer (fun k hk=>HYA.o.2.2.2.2.1 k hk));clear hg2 hm2 hY2 HA5 HG5 HB5 HN5 HX5;refine NoPanic.normal ?_;obtain ⟨r0,r1,r2,r3,r4,r5,r6,r7,r8,r9,r10,rl⟩:=zAz HP5.o;obtain ⟨s0,s1,s2,sl⟩:=zAh HQ5.o
    (try dsimp only)
    repeat (first|go_values|go_skip|go_guarded|go_step|go_upon|go_in)
    (try simp only [Exit.inBlock,Exit.then])
    refine bodyPost_ret (by simp [results,Tryz.results119,go_sem,r0,r1,r2,r3,r4,r5,r6,r7,r8,r9,r10,s0,s1,s2];try rfl) rfl ?_;refine ⟨va,vc,xa,xc,by rw [HPQ.o];rfl,HB6.o,?_⟩;rw [HPQ.o];exact ⟨HN6.o,HX6.o.subs,HVC.o.1,HVC.o.2,HX6.o.h1,HX6.o.h2⟩
   ·have hd1:decide ((i:Int)<(kk:Int))=false:=decide_eq_false (by omega)
    have hd2:decide (i<kk)=false:=decide_eq_false hi;go_upto_region 15 with (fail)
    clear c0 c1 c2 cl f1 hd1 hd2 hi HQ;have hC3:CBox (w2.setCell ⟨C,1,none⟩ (.int .i64 400)) C 103 #[.string ⟨sr.rest.toArray⟩,.int .i64 400,.bool sr.bad]:=HC2.o.set 1 _;have hM3:Mod [C] w2 (w2.setCell ⟨C,1,none⟩ (.int .i64 400)):=zBx _ _ _ _;generalize World.setCell _ ⟨C,1,none⟩ _=v2 at *;have HE3:=CBox.modh HE2.o hM3;have HA3:=CBox.modh HA2.o hM3;have HG3:=CBox.modh HG2.o hM3;have HB3:=zAm HB2.o hM3 HWC;have HNR3:=lH (HNR.o.mod (hM3.mono (fun k hk=>by rw [List.mem_singleton.1 hk];exact HYA.o.1)))
    obtain ⟨st,hst⟩:∃st:Sq,(⟨sr.rest,400,sr.bad⟩:Sq)=st:=⟨_,rfl⟩
    have HC3:Hid (CBox v2 C 103 #[.string ⟨st.rest.toArray⟩,.int .i64 st.left,.bool st.bad]):=by
     show CBox _ _ _ _
     rw [←hst];exact hC3
    have hrt:st.rest.length≤1000000:=by rw [←hst];exact hsr
    have hlt:st.left≤1000000:=by rw [←hst];exact (by decide:400≤1000000)
    rw [hst] at HPQ;have hYs:∀k∈Y,k<v2.heap.size:=fun k hk=>by have h1:=HYA.o.2.2.2.2.2 k hk;have:=HE3.o.lt;omega
    have HCA:=zIg 41 (Nat.le_refl _) st Y v2 hrt hlt hYs;obtain ⟨px,hpx⟩:∃p,qdX 41 st=p:=⟨_,rfl⟩;rw [hpx] at HCA HPQ;obtain ⟨x,sx⟩:=px;unfold SqV exV at HCA;simp only at HCA HPQ
    replace HCA:=lH HCA;clear hst hC3 hM3 hYs hpx hrt hlt hsr HE2 HC2 HA2 HG2 HB2 HNR;obtain ⟨c0,c1,c2,cl⟩:=zAh HC3.o;go_wp2_with (fail)
    refine HCA.o.mono ?_;rintro e w6 ⟨xa,xc,rfl,hb6,hx6⟩;have hE:=HE3.o.below hb6;have hA:=HA3.o.below hb6;have hG:=HG3.o.below hb6;have hC:=HC3.o.below hb6;have hB:=HB3.o.trans (hb6.mono HB3.o.size);have hN:=HNR3.o.below hb6;clear HCA hb6 c0 c1 c2 cl HE3 HA3 HG3 HC3 HB3 HNR3;obtain ⟨-,-,-,-,-,e5,e6,e7,e8,e9,e10,el⟩:=zAz hE;obtain ⟨-,-,-,-,-,q5,q6,q7,q8,q9,q10⟩:=zEl hE;obtain ⟨c0,c1,c2,cl⟩:=zAh hC;obtain ⟨f0,f1,f2⟩:=zAu hC;go_upto_region 16 with (fail)
    clear e5 q5 e6 q6 e7 q7 e8 q8 e9 q9 e10 q10 el c0 c1 c2 f0 f1 f2 cl
    have hm1:Mod [E] w6 ((((((w6.setCell ⟨E,5,none⟩ (.int .i64 x.kind)).setCell ⟨E,6,none⟩ (.string x.name)).setCell ⟨E,7,none⟩ (.string x.more)).setCell ⟨E,8,none⟩ (.int .i64 x.num)).setCell ⟨E,9,none⟩ (.int .i64 x.den)).setCell ⟨E,10,none⟩ (.slice xa x.subs.length xc)):=(((((((Mod.refl [E] w6).setCell (p:=⟨E,5,none⟩) (List.mem_singleton.2 rfl) _).setCell (p:=⟨E,6,none⟩) (List.mem_singleton.2 rfl) _).setCell (p:=⟨E,7,none⟩) (List.mem_singleton.2 rfl) _).setCell (p:=⟨E,8,none⟩) (List.mem_singleton.2 rfl) _).setCell (p:=⟨E,9,none⟩) (List.mem_singleton.2 rfl) _).setCell (p:=⟨E,10,none⟩) (List.mem_singleton.2 rfl) _)
    have hE1:CBox ((((((w6.setCell ⟨E,5,none⟩ (.int .i64 x.kind)).setCell ⟨E,6,none⟩ (.string x.name)).setCell ⟨E,7,none⟩ (.string x.more)).setCell ⟨E,8,none⟩ (.int .i64 x.num)).setCell ⟨E,9,none⟩ (.int .i64 x.den)).setCell ⟨E,10,none⟩ (.slice xa x.subs.length xc)) E 62 #[.int .i64 ka,.int .i64 kb,.bool (kp==1),.slice va L.length vc,.bool (kd==1),.int .i64 x.kind,.string x.name,.string x.more,.int .i64 x.num,.int .i64 x.den,.slice xa x.subs.length xc]:=((((((hE.set 5 _).set 6 _).set 7 _).set 8 _).set 9 _).set 10 _);have hC1:=CBox.mod hC hm1 zAe
    have hA1:=CBox.mod hA hm1 zAe;have hG1:=CBox.mod hG hm1 zAe;have hB1:=hB.trans (hm1.upto hB.size (fun g hg=>by rw [List.mem_singleton.1 hg,HWC.o];omega));have hN1:=hN.mod (hm1.mono (fun k hk=>by rw [List.mem_singleton.1 hk];exact HYA.o.2.2.2.1));have hx1:=hx6.mod (hm1.mono (fun k hk=>by rw [List.mem_singleton.1 hk];exact HYA.o.2.2.2.1));clear hm1 hE hC hA hG hB hN hx6;obtain ⟨hC2,hm2⟩:=CBox.threes hC1 (.string ⟨sx.rest.toArray⟩) (.int .i64 sx.left) (.bool sx.bad);generalize World.setCell _ ⟨C,2,none⟩ _=w7 at *
    have HE2:=CBox.modh hE1 hm2;have HA2:=CBox.modh hA1 hm2;have HG2:=CBox.modh hG1 hm2;have HB2:=zAm hB1 hm2 HWC;have HC2:=lH hC2;have HN2:=lH (hN1.mod (hm2.mono (fun k hk=>by rw [List.mem_singleton.1 hk];exact HYA.o.1)));have HX2:=lH (hx1.mod (hm2.mono (fun k hk=>by rw [List.mem_singleton.1 hk];exact HYA.o.1)));clear hm2 hC1 hC2 hE1 hA1 hG1 hB1 hN1 hx1;have hD:=(Mod.refl [] w7).drew.below;have HE4:=lH (CBox.below HE2.o hD);have HC4:=lH (CBox.below HC2.o hD);have HA4:=lH (CBox.below HA2.o hD)
    have HG4:=lH (CBox.below HG2.o hD);have HB4:=lH (HB2.o.trans (hD.mono HB2.o.size));have HN4:=lH (HN2.o.below hD);have HX4:=lH (HX2.o.below hD);clear hD HE2 HC2 HA2 HG2 HB2 HN2 HX2
    refine wp_region_noPanic (zBe (fun W:World=>CBox W E 62 #[.int .i64 ka,.int .i64 kb,.bool (kp==1),.slice va L.length vc,.bool (kd==1),.int .i64 x.kind,.string x.name,.string x.more,.int .i64 x.num,.int .i64 x.den,.slice xa x.subs.length xc]∧CBox W C 103 #[.string ⟨sx.rest.toArray⟩,.int .i64 sx.left,.bool sx.bad]) 3 [(true,0),(true,1),(false,2)] zBm (by kernel_rfl) (fun _ _ _ _ _ h=>h) ⟨HE4.o,HC4.o⟩ ?_)
    refine zAy (v:=.agg #[.int .i64 ka,.int .i64 kb,.bool (kp==1),.slice va L.length vc,.bool (kd==1),.int .i64 x.kind,.string x.name,.string x.more,.int .i64 x.num,.int .i64 x.den,.slice xa x.subs.length xc]) rfl (by rfl) (fun wq hSw=>?_) ?_
    ·obtain ⟨hSw,-⟩:=hSw
     have e0:=hSw.cell (i:=0) (v:=.int .i64 ka) rfl;have e1:=hSw.cell (i:=1) (v:=.int .i64 kb) rfl;have e2:=hSw.cell (i:=2) (v:=.bool (kp==1)) rfl;have e3:=hSw.cell (i:=3) (v:=.slice va L.length vc) rfl;have e4:=hSw.cell (i:=4) (v:=.bool (kd==1)) rfl;have e5:=hSw.cell (i:=5) (v:=.int .i64 x.kind) rfl;have e6:=hSw.cell (i:=6) (v:=.string x.name) rfl;have e7:=hSw.cell (i:=7) (v:=.string x.more) rfl;have e8:=hSw.cell (i:=8) (v:=.int .i64 x.num) rfl;have e9:=hSw.cell (i:=9) (v:=.int .i64 x.den) rfl;have e10:=hSw.cell (i:=10) (v:=.slice xa x.subs.length xc) rfl;have el:=hSw.lt
     clear hSw
     go_simp
     (try with_reducible rfl)
    (try simp only [gA,gB,gC,Act.put,gD,gE,gF])
    refine zAy (v:=.agg #[.string ⟨sx.rest.toArray⟩,.int .i64 sx.left,.bool sx.bad]) rfl (by rfl) (fun wq hSw=>?_) ?_
    ·obtain ⟨-,hSw⟩:=hSw
     have c0:=hSw.cell (i:=0) (v:=.string ⟨sx.rest.toArray⟩) rfl;have c1:=hSw.cell (i:=1) (v:=.int .i64 sx.left) rfl;have c2:=hSw.cell (i:=2) (v:=.bool sx.bad) rfl;have cl:=hSw.lt;clear hSw
     go_simp
     (try with_reducible rfl)
    (try simp only [gA,gB,gC,Act.put,gD,gE,gF])
    generalize w7.drew=z0 at *;obtain ⟨a0,a1,a2,a3,a4,a5,a6,a7,a8,a9,a10,al⟩:=zAz HA4.o;obtain ⟨b0,b1,b2,b3,b4,b5,b6,b7,b8,b9,b10⟩:=zEl HA4.o
    (refine zBo rfl (by rfl) (fun K hK=>?_);go_simp)
    clear a0 b0 a1 b1 a2 b2 a3 b3 a4 b4 a5 b5 a6 b6 a7 b7 a8 b8 a9 b9 a10 b10 al;obtain ⟨hp1,hp2⟩:=CBox.elevK HA4.o (.int .i64 ka) (.int .i64 kb) (.bool (kp==1)) (.slice va L.length vc) (.bool (kd==1)) (.int .i64 x.kind) (.string x.name) (.string x.more) (.int .i64 x.num) (.int .i64 x.den) (.slice xa x.subs.length xc);refine hK.out _ _ ⟨CBox.mod HE4.o hp2 zAe,CBox.mod HC4.o hp2 zAe⟩ ?_;clear hK K;(try simp only [gA,gB,gC,Act.put,gD,gE,gF]);generalize World.setCell _ ⟨A,10,none⟩ _=z1 at *;have HG5:=CBox.modh HG4.o hp2
    have HB5:=zAm HB4.o hp2 HWC;have hY1:∀k∈[A],k∈Y:=fun k hk=>by rw [List.mem_singleton.1 hk];exact HYA.o.2.1
    have HN5:=lH (HN4.o.mod (hp2.mono hY1));have HX5:=lH (HX4.o.mod (hp2.mono hY1));have HA5:=lH hp1;clear hp1 hp2 hY1 HA4 HG4 HB4 HN4 HX4 HE4 HC4;refine zBy ?_;simp only [List.drop_succ_cons,List.drop_zero]
    obtain ⟨g0,g1,g2,gl⟩:=zAh HG5.o;obtain ⟨h0,h1,h2⟩:=zAu HG5.o;go_wp2;clear g0 g1 g2 h0 h1 h2 gl;obtain ⟨hg2,hm2⟩:=CBox.threes HG5.o (.string ⟨sx.rest.toArray⟩) (.int .i64 sx.left) (.bool sx.bad);generalize World.setCell _ ⟨G,2,none⟩ _=z2 at *;have HP5:=CBox.modh HA5.o hm2;have HQ5:=lH hg2;have HB6:=zAm HB5.o hm2 HWC;have hY2:∀k∈[G],k∈Y:=fun k hk=>by rw [List.mem_singleton.1 hk];exact HYA.o.2.2.1
    have HN6:=lH ((HN5.o.mod (hm2.mono hY2)).fewer (fun k hk=>HYA.o.2.2.2.2.1 k hk));have HX6:=lH ((HX5.o.mod (hm2.mono hY2)).fewer (fun k hk=>HYA.o.2.2.2.2.1 k hk));clear hg2 hm2 hY2 HA5 HG5 HB5 HN5 HX5;refine NoPanic.normal ?_;obtain ⟨r0,r1,r2,r3,r4,r5,r6,r7,r8,r9,r10,rl⟩:=zAz HP5.o;obtain ⟨s0,s1,s2,sl⟩:=zAh HQ5.o
    (try dsimp only)
    repeat (first|go_values|go_skip|go_guarded|go_step|go_upon|go_in)
    (try simp only [Exit.inBlock,Exit.then])
    refine bodyPost_ret (by simp [results,Tryz.results119,go_sem,r0,r1,r2,r3,r4,r5,r6,r7,r8,r9,r10,s0,s1,s2];try rfl) rfl ?_;refine ⟨va,vc,xa,xc,by rw [HPQ.o];rfl,HB6.o,?_⟩;rw [HPQ.o];exact ⟨HN6.o,HX6.o.subs,HVC.o.1,HVC.o.2,HX6.o.h1,HX6.o.h2⟩
theorem zNk (s:Sq) (X:List Nat) (w:World) (hs:s.rest.length≤1000000) (hle:s.left≤1000000) (hX:∀k∈X,k<w.heap.size) :
  Calls Tryz.prog 66 #[SqV s] w fun e w'=>∃va vc,e=.returned (.tuple #[.slice va (qdDs s).1.length vc,SqV (qdDs s).2])∧Bw w w'∧Reads w' X (declsT (qdDs s).1) (.slice va (qdDs s).1.length vc)∧(qdDs s).1.length≤vc∧vc≤9223372036854775807:=by
 have HXW:=lH hX;have HPP:Hid (qdDs s=if (qdN s).1=0∨(qdN s).2.bad=true then ([],(qdN s).2) else ([(qdD (qdN s).2).1],(qdD (qdN s).2).2)):=rfl;clear hX;generalize qdDs s=P at *;obtain ⟨hC,hG,hW⟩:=zBv w 103 #[.string ⟨s.rest.toArray⟩,.int .i64 s.left,.bool s.bad] #[.string ⟨#[]⟩,.int .i64 0,.bool false];have hx1:=zAn s;have HCA:=fun W=>zBl s W hs;obtain ⟨p1,hp1⟩:∃p,qdN s=p:=⟨_,rfl⟩;rw [hp1] at hx1 HPP;simp only [hp1] at HCA
 obtain ⟨kn,s1⟩:=p1;unfold SqV at HCA;simp only at HCA hx1
 have hr1:s1.rest.length≤1000000:=Nat.le_trans hx1.1 hs;have ht1:s1.left≤1000000:=by have:=hx1.2.2;omega
 replace HCA:=lH HCA;clear hp1 hx1 hle;unfold SqV
 go_enter Tryz.func66,Tryz.ntmps66
 go_upto_region 1 with (fail)
 obtain ⟨C,hCe⟩:∃C,w.heap.size=C:=⟨_,rfl⟩;obtain ⟨G,hGe⟩:∃G,C+1=G:=⟨_,rfl⟩;rw [hCe] at hC hG ⊢;rw [hGe] at hG
 (try rw [hGe])
 have HWC:Hid (w.heap.size=C):=hCe;have hCG:C<G:=by omega
 have HC0:=lH hC;have HG0:=lH hG;have HB0:Hid (Bw w _):=hW;clear hC hG hW hCe hGe;generalize (w.alloc (.cells #[.string ⟨s.rest.toArray⟩,.int .i64 s.left,.bool s.bad] 103)).alloc (.cells #[.string ⟨#[]⟩,.int .i64 0,.bool false] 103)=v0 at *;obtain ⟨c0,c1,c2,cl⟩:=zAh HC0.o;go_wp2_with (fail)
 refine (HCA.o v0).mono ?_;rintro e w1 ⟨rfl,hb1⟩;have hG:=HG0.o.below hb1;have hC:=HC0.o.below hb1;have hB:=HB0.o.trans (hb1.mono HB0.o.size);clear HCA hb1 c0 c1 c2 cl HG0 HC0 HB0;obtain ⟨c0,c1,c2,cl⟩:=zAh hC;obtain ⟨f0,f1,f2⟩:=zAu hC;go_upto_region 2 with (fail)
 clear c0 c1 c2 f0 f1 f2 cl;have hm2:Mod [C] w1 (((w1.setCell ⟨C,0,none⟩ (.string ⟨s1.rest.toArray⟩)).setCell ⟨C,1,none⟩ (.int .i64 s1.left)).setCell ⟨C,2,none⟩ (.bool s1.bad)):=((((Mod.refl [C] w1).setCell (p:=⟨C,0,none⟩) (List.mem_singleton.2 rfl) _).setCell (p:=⟨C,1,none⟩) (List.mem_singleton.2 rfl) _).setCell (p:=⟨C,2,none⟩) (List.mem_singleton.2 rfl) _)
 have hC2:CBox (((w1.setCell ⟨C,0,none⟩ (.string ⟨s1.rest.toArray⟩)).setCell ⟨C,1,none⟩ (.int .i64 s1.left)).setCell ⟨C,2,none⟩ (.bool s1.bad)) C 103 #[.string ⟨s1.rest.toArray⟩,.int .i64 s1.left,.bool s1.bad]:=(((hC.set 0 _).set 1 _).set 2 _);generalize World.setCell _ ⟨C,2,none⟩ _=v1 at *;have HG1:=CBox.modh hG hm2;have HB1:=zAm hB hm2 HWC;have HC1:=lH hC2;clear hm2 hC hC2 hG hB;have c2:=HC1.o.cell (i:=2) (v:=.bool s1.bad) rfl;have cl:=HC1.o.lt
 by_cases hz:kn=0∨s1.bad=true
 ·have HP:Hid (P=([],s1)):=by show _=_;rw [HPP.o,if_pos hz]
  clear HPP
  by_cases h0:kn=0
  ·have q1:(kn==0)=true:=by simp [h0]
   clear hz h0;go_upto_region 3 with (fail)
   clear c2 cl q1;obtain ⟨c0,c1,c2,cl⟩:=zAh HC1.o;obtain ⟨g0,g1,g2,gl⟩:=zAh HG1.o;obtain ⟨h0,h1,h2⟩:=zAu HG1.o
   go_region
   all_goals go_wp2
   all_goals clear c0 c1 cl g0 g1 g2 h0 h1 h2 gl
   all_goals (
    obtain ⟨hg2,hm2⟩:=CBox.threes HG1.o (.string ⟨s1.rest.toArray⟩) (.int .i64 s1.left) (.bool s1.bad);have hg3:=CBox.below hg2 (Mod.refl [] _).drew.below;have y0:=hg3.cell (i:=0) (v:=.string ⟨s1.rest.toArray⟩) rfl;have y1:=hg3.cell (i:=1) (v:=.int .i64 s1.left) rfl;have y2:=hg3.cell (i:=2) (v:=.bool s1.bad) rfl;have yl:=hg3.lt;have hz1:=HB1.o.trans (hm2.upto HB1.o.size (fun g hg=>by rw [List.mem_singleton.1 hg,HWC.o];omega));have hz:=hz1.trans ((Mod.refl [] _).drew.below.mono hz1.size)
    (try simp only [Exit.inBlock,Exit.then])
    refine bodyPost_ret (by simp [results,Tryz.results66,go_sem,y0,y1,y2];try rfl) rfl ?_
    exact ⟨none,0,by rw [HP.o];rfl,hz,by rw [HP.o];exact ⟨Reads.nilRow _ _ _ _,Nat.le_refl _,by omega⟩⟩)
  ·have q1:(kn==0)=false:=by simp [h0]
   have hb1:s1.bad=true:=hz.resolve_left h0;rw [hb1] at c2;clear hz h0;go_upto_region 3 with (fail)
   clear c2 cl q1 hb1;obtain ⟨c0,c1,c2,cl⟩:=zAh HC1.o;obtain ⟨g0,g1,g2,gl⟩:=zAh HG1.o;obtain ⟨h0,h1,h2⟩:=zAu HG1.o
   go_region
   all_goals go_wp2
   all_goals clear c0 c1 cl g0 g1 g2 h0 h1 h2 gl
   all_goals (
    obtain ⟨hg2,hm2⟩:=CBox.threes HG1.o (.string ⟨s1.rest.toArray⟩) (.int .i64 s1.left) (.bool s1.bad);have hg3:=CBox.below hg2 (Mod.refl [] _).drew.below;have y0:=hg3.cell (i:=0) (v:=.string ⟨s1.rest.toArray⟩) rfl;have y1:=hg3.cell (i:=1) (v:=.int .i64 s1.left) rfl;have y2:=hg3.cell (i:=2) (v:=.bool s1.bad) rfl;have yl:=hg3.lt;have hz1:=HB1.o.trans (hm2.upto HB1.o.size (fun g hg=>by rw [List.mem_singleton.1 hg,HWC.o];omega));have hz:=hz1.trans ((Mod.refl [] _).drew.below.mono hz1.size)
    (try simp only [Exit.inBlock,Exit.then])
    refine bodyPost_ret (by simp [results,Tryz.results66,go_sem,y0,y1,y2];try rfl) rfl ?_
    exact ⟨none,0,by rw [HP.o];rfl,hz,by rw [HP.o];exact ⟨Reads.nilRow _ _ _ _,Nat.le_refl _,by omega⟩⟩)
 ·have HP:Hid (P=([(qdD s1).1],(qdD s1).2)):=by show _=_;rw [HPP.o,if_neg hz]
  clear HPP;have q1:(kn==0)=false:=by simp;exact fun h=>hz (.inl h)
  have hb1:s1.bad=false:=by cases h:s1.bad with|true=>exact absurd (.inr h) hz|false=>rfl
  rw [hb1] at c2;clear hz;go_upto_region 4 with (fail)
  clear c2 cl q1
  have hXs:∀k∈C::G::X,k<v1.heap.size:=by
   intro k hk;simp only [List.mem_cons] at hk
   rcases hk with rfl|rfl|hk
   ·exact HC1.o.lt
   ·exact HG1.o.lt
   ·exact Nat.lt_of_lt_of_le (HXW.o k hk) HB1.o.size
  have HCA:=zXc s1 (C::G::X) v1 hr1 ht1 hXs;have HRD:=zR (N:=1000000) s1 hr1;obtain ⟨pd,hpd⟩:∃p,qdD s1=p:=⟨_,rfl⟩;rw [hpd] at HCA HP;obtain ⟨dd,sn⟩:=pd;obtain ⟨ka,kb,kp,dn,kd,x⟩:=dd;unfold SqV declV at HCA;simp only at HCA HP
  rw [hb1] at HCA;replace HCA:=lH HCA;clear hXs hpd HRD;obtain ⟨c0,c1,c2,cl⟩:=zAh HC1.o;rw [hb1] at c2;go_wp2_with (fail)
  refine HCA.o.mono ?_;rintro e w2 ⟨an,cn,sa,cs,rfl,hb2,hd2⟩;have hC:=HC1.o.below hb2;have hG:=HG1.o.below hb2;have hB:=HB1.o.trans (hb2.mono HB1.o.size);clear HCA hb2 c0 c1 c2 cl HG1 HC1 HB1;obtain ⟨c0,c1,c2,cl⟩:=zAh hC;obtain ⟨f0,f1,f2⟩:=zAu hC;go_upto_region 5 with (fail)
  clear c0 c1 c2 f0 f1 f2 cl;obtain ⟨D,hDe⟩:∃D,w2.heap.size=D:=⟨_,rfl⟩;have hCD:C<D:=by have:=hC.lt;omega
  have hGD:G<D:=by have:=hG.lt;omega
  obtain ⟨hC2,hm2⟩:=CBox.threes hC (.string ⟨sn.rest.toArray⟩) (.int .i64 sn.left) (.bool sn.bad);have hsz:(((w2.setCell ⟨C,0,none⟩ (.string ⟨sn.rest.toArray⟩)).setCell ⟨C,1,none⟩ (.int .i64 sn.left)).setCell ⟨C,2,none⟩ (.bool sn.bad)).heap.size=D:=by rw [World.size_setCell,World.size_setCell,World.size_setCell];exact hDe
  (try rw [hDe])
  generalize World.setCell _ ⟨C,2,none⟩ _=w3 at *;have hal:=zAa w3 (.cells #[.int .i64 ka,.int .i64 kb,.bool kp,.slice an dn.length cn,.bool kd,.int .i64 x.kind,.string x.name,.string x.more,.int .i64 x.num,.int .i64 x.den,.slice sa x.subs.length cs] 62);have hD:=CBox.new w3 62 #[.int .i64 ka,.int .i64 kb,.bool kp,.slice an dn.length cn,.bool kd,.int .i64 x.kind,.string x.name,.string x.more,.int .i64 x.num,.int .i64 x.den,.slice sa x.subs.length cs];rw [hsz] at hD;have hG1:=(CBox.mod hG hm2 zAe).below hal;have hC3:=hC2.below hal
  have hb:=hB.trans (hm2.upto hB.size (fun g hg=>by rw [List.mem_singleton.1 hg,HWC.o];omega));have hb2:=hb.trans (hal.mono hb.size);have hd3:=(hd2.mod (hm2.mono (fun k hk=>by rw [List.mem_singleton.1 hk];simp))).below hal;clear hal hC hG hB hd2 hDe hsz hm2 hC2 hb;generalize World.alloc w3 _=w4 at *;have hdr:=(Mod.refl [] w4).drew.below;have HD4:=lH (CBox.below hD hdr);have HG4:=lH (CBox.below hG1 hdr);have HC4:=lH (CBox.below hC3 hdr);have HB4:=lH (hb2.trans (hdr.mono hb2.size));have HX4:=lH (hd3.below hdr);clear hdr hC3 hG1 hb2 hD hd3
  refine wp_region_noPanic (zBe (fun W:World=>CBox W D 62 #[.int .i64 ka,.int .i64 kb,.bool kp,.slice an dn.length cn,.bool kd,.int .i64 x.kind,.string x.name,.string x.more,.int .i64 x.num,.int .i64 x.den,.slice sa x.subs.length cs]∧CBox W C 103 #[.string ⟨sn.rest.toArray⟩,.int .i64 sn.left,.bool sn.bad]) 4 [(true,0),(true,2),(false,1),(true,3)] zBm (by kernel_rfl) (fun _ _ _ _ _ h=>h) ⟨HD4.o,HC4.o⟩ ?_)
  refine zAy (v:=.agg #[.int .i64 ka,.int .i64 kb,.bool kp,.slice an dn.length cn,.bool kd,.int .i64 x.kind,.string x.name,.string x.more,.int .i64 x.num,.int .i64 x.den,.slice sa x.subs.length cs]) rfl (by rfl) (fun wq hSw=>?_) ?_
  ·obtain ⟨hSw,-⟩:=hSw
   have e0:=hSw.cell (i:=0) (v:=.int .i64 ka) rfl;have e1:=hSw.cell (i:=1) (v:=.int .i64 kb) rfl;have e2:=hSw.cell (i:=2) (v:=.bool kp) rfl;have e3:=hSw.cell (i:=3) (v:=.slice an dn.length cn) rfl;have e4:=hSw.cell (i:=4) (v:=.bool kd) rfl;have e5:=hSw.cell (i:=5) (v:=.int .i64 x.kind) rfl;have e6:=hSw.cell (i:=6) (v:=.string x.name) rfl;have e7:=hSw.cell (i:=7) (v:=.string x.more) rfl;have e8:=hSw.cell (i:=8) (v:=.int .i64 x.num) rfl;have e9:=hSw.cell (i:=9) (v:=.int .i64 x.den) rfl;have e10:=hSw.cell (i:=10) (v:=.slice sa x.subs.length cs) rfl;have el:=hSw.lt
   clear hSw
   go_simp
   (try with_reducible rfl)
  (try simp only [gA,gB,gC,Act.put,gD,gE,gF])
  refine zAy (v:=.agg #[.string ⟨sn.rest.toArray⟩,.int .i64 sn.left,.bool sn.bad]) rfl (by rfl) (fun wq hSw=>?_) ?_
  ·obtain ⟨-,hSw⟩:=hSw
   have c0:=hSw.cell (i:=0) (v:=.string ⟨sn.rest.toArray⟩) rfl;have c1:=hSw.cell (i:=1) (v:=.int .i64 sn.left) rfl;have c2:=hSw.cell (i:=2) (v:=.bool sn.bad) rfl;have cl:=hSw.lt;clear hSw
   go_simp
   (try with_reducible rfl)
  (try simp only [gA,gB,gC,Act.put,gD,gE,gF])
  generalize w4.drew=z0 at *
  (refine zBo rfl (by rfl) (fun K hK=>?_);go_simp)
  have hal:=zAa z0 (.cells #[.int .i64 ka,.int .i64 kb,.bool kp,.slice an dn.length cn,.bool kd,.int .i64 x.kind,.string x.name,.string x.more,.int .i64 x.num,.int .i64 x.den,.slice sa x.subs.length cs] 62);refine hK.out _ _ ⟨HD4.o.below hal,HC4.o.below hal⟩ ?_;clear hK K;(try simp only [gA,gB,gC,Act.put,gD,gE,gF]);have HN5:=lH (CBox.new z0 62 #[.int .i64 ka,.int .i64 kb,.bool kp,.slice an dn.length cn,.bool kd,.int .i64 x.kind,.string x.name,.string x.more,.int .i64 x.num,.int .i64 x.den,.slice sa x.subs.length cs])
  have HG5:=lH (HG4.o.below hal);have HB5:=lH (HB4.o.trans (hal.mono HB4.o.size));have HX5:=lH (HX4.o.below hal);have hNX:∀k∈X,k<z0.heap.size:=fun k hk=>Nat.lt_of_lt_of_le (HXW.o k hk) HB4.o.size;have hGN:G<z0.heap.size:=HG4.o.lt;clear hal HD4 HC4 HG4 HB4 HX4;generalize World.alloc z0 _=z1 at *;generalize z0.heap.size=N at *
  (refine zAy (v:=?_) rfl (by rfl) ?_ ?_;rotate_left;(focus (intro wq hSw;(try dsimp only at hSw);go_simp;(try rw [if_neg (by first|omega|(simp;omega))]);(try with_reducible rfl)));(try simp only [gA,gB,gC,Act.put,gD,gE,gF]))
  refine zBy ?_;simp only [List.drop_succ_cons,List.drop_zero]
  obtain ⟨g0,g1,g2,gl⟩:=zAh HG5.o;obtain ⟨h0,h1,h2⟩:=zAu HG5.o;go_wp2;clear g0 g1 g2 h0 h1 h2 gl;obtain ⟨hg2,hm2⟩:=CBox.threes HG5.o (.string ⟨sn.rest.toArray⟩) (.int .i64 sn.left) (.bool sn.bad);generalize World.setCell _ ⟨G,2,none⟩ _=z2 at *;have HQ6:=lH hg2;have HN6:=CBox.modh HN5.o hm2;have HB6:=zAm HB5.o hm2 HWC;have HX6:=lH ((HX5.o.mod (hm2.mono (fun k hk=>by rw [List.mem_singleton.1 hk];simp))).fewer (Y:=X) (fun k hk=>by simp [hk]));clear hg2 hm2 HN5 HG5 HB5 HX5;refine NoPanic.normal ?_
  obtain ⟨y0,y1,y2,yl⟩:=zAh HQ6.o
  (try dsimp only)
  repeat (first|go_values|go_skip|go_guarded|go_step|go_upon|go_in)
  (try simp only [Exit.inBlock,Exit.then])
  refine bodyPost_ret (by simp [results,Tryz.results66,go_sem,y0,y1,y2];try rfl) rfl ?_
  have hrow:IsRow z2 11 (.slice (some ⟨N,0,none⟩) 1 1) 1 (declL ⟨ka,kb,kp,dn,kd,x⟩ an cn sa cs):=⟨rfl,some ⟨N,0,none⟩,1,rfl,Nat.le_refl _,by unfold maxLen;omega,fun _=>⟨N,0,rfl,HN6.o.lt,fun j q hj=>by
   rw [Nat.zero_add]
   exact HN6.o.cell (i:=j) (v:=q) (by rw [←Array.getElem?_toList];exact hj)⟩⟩
  have hcl:ReadsL z2 X ([(⟨ka,kb,kp,dn,kd,x⟩:ODecl)].flatMap declT) (declL ⟨ka,kb,kp,dn,kd,x⟩ an cn sa cs):=by
   rw [List.flatMap_cons,List.flatMap_nil,List.append_nil];exact zBr HX6.o.names HX6.o.subs
  have hrd:Reads z2 X (declsT [⟨ka,kb,kp,dn,kd,x⟩]) (.slice (some ⟨N,0,none⟩) 1 1):=Reads.ofRow hrow (fun _ b hb hX=>by
   have hb':some N=some b:=hb
   cases hb'
   exact absurd (hNX N hX) (Nat.lt_irrefl _)) hcl
  refine ⟨some ⟨N,0,none⟩,1,by rw [HP.o];rfl,HB6.o,?_⟩;rw [HP.o];exact ⟨hrd,Nat.le_refl _,by omega⟩
theorem zRg (s:Sq) (h:s.left≤1000000):(qdDs s).2.left≤1000000:=by
 have h1:=(zAn s).2.2;unfold qdDs;split
 ·simp only;omega
 ·simp only
  unfold qdD;simp only
  exact Nat.le_trans (zP 41 _) (by simp)
theorem zPa (s:List UInt8) (hs:s.length≤40000) (w:World):Calls Tryz.prog 24 #[.string ⟨s.toArray⟩] w fun r w'=>DecPost w (decQ s) r w':=by
 obtain ⟨s0,hs0⟩:∃s0:Sq,(⟨s,0,false⟩:Sq)=s0:=⟨_,rfl⟩;have HPE:qdE s=((⟨(qdN s0).1,(qdT (qdN s0).2).1,(qdT (qdT (qdN s0).2).2).1,(qdDs (qdT (qdT (qdN s0).2).2).2).1,(qdDs (qdDs (qdT (qdT (qdN s0).2).2).2).2).1⟩:OEdit),(qdDs (qdDs (qdT (qdT (qdN s0).2).2).2).2).2):=by rw [←hs0];rfl
 have hl0:s0.rest.length≤1000000:=by rw [←hs0];show s.length≤_;omega
 have hf0:s0.left≤1000000:=by rw [←hs0];exact Nat.zero_le _
 have HSM:Hid (SmE (qdE s).1):=(zRa s hs).sm (Nat.le_refl _);have HD0:Hid ((qdE s).2.bad=true→decQ s=(zeroE,13)):=fun h=>by unfold decQ;rw [if_pos h]
 have HD1:Hid ((qdE s).2.bad=false→editErr (qdE s).1=0→encE (qdE s).1=s→decQ s=((qdE s).1,0)):=fun h1 h3 h4=>by unfold decQ;rw [if_neg (by rw [h1];simp),if_pos ⟨h3,h4⟩]
 have HD2:Hid ((qdE s).2.bad=false→¬(editErr (qdE s).1=0∧encE (qdE s).1=s)→decQ s=(zeroE,13)):=fun h1 h3=>by unfold decQ;rw [if_neg (by rw [h1];simp),if_neg h3]
 have HES:Hid (∀e:OEdit,editErr e=0→encS e=⟨(encE e).toArray⟩):=fun e h=>by unfold encS;rw [if_pos h]
 generalize decQ s=Q at *;generalize qdE s=P at *;obtain ⟨S,hS⟩:∃S:ByteArray,S=⟨s.toArray⟩:=⟨_,rfl⟩;rw [←hS];have HSS:=lH hS;have h1:=zAa w (.cells #[.int .i64 0,.string ⟨#[]⟩,.string ⟨#[]⟩,.slice none 0 0,.slice none 0 0] 39);have h2:=zAa (w.alloc (.cells #[.int .i64 0,.string ⟨#[]⟩,.string ⟨#[]⟩,.slice none 0 0,.slice none 0 0] 39)) (.cells #[.int .i64 0,.string ⟨#[]⟩,.string ⟨#[]⟩,.slice none 0 0,.slice none 0 0] 39)
 have h3:=zAa ((w.alloc (.cells #[.int .i64 0,.string ⟨#[]⟩,.string ⟨#[]⟩,.slice none 0 0,.slice none 0 0] 39)).alloc (.cells #[.int .i64 0,.string ⟨#[]⟩,.string ⟨#[]⟩,.slice none 0 0,.slice none 0 0] 39)) (.cells #[.string S,.int .i64 0,.bool false] 103)
 have hR:CBox (((w.alloc (.cells #[.int .i64 0,.string ⟨#[]⟩,.string ⟨#[]⟩,.slice none 0 0,.slice none 0 0] 39)).alloc (.cells #[.int .i64 0,.string ⟨#[]⟩,.string ⟨#[]⟩,.slice none 0 0,.slice none 0 0] 39)).alloc (.cells #[.string S,.int .i64 0,.bool false] 103)) w.heap.size 39 #[.int .i64 0,.string ⟨#[]⟩,.string ⟨#[]⟩,.slice none 0 0,.slice none 0 0]:=(CBox.below (CBox.new w 39 #[.int .i64 0,.string ⟨#[]⟩,.string ⟨#[]⟩,.slice none 0 0,.slice none 0 0]) h2).below h3
 have hE:CBox (((w.alloc (.cells #[.int .i64 0,.string ⟨#[]⟩,.string ⟨#[]⟩,.slice none 0 0,.slice none 0 0] 39)).alloc (.cells #[.int .i64 0,.string ⟨#[]⟩,.string ⟨#[]⟩,.slice none 0 0,.slice none 0 0] 39)).alloc (.cells #[.string S,.int .i64 0,.bool false] 103)) (w.heap.size+1) 39 #[.int .i64 0,.string ⟨#[]⟩,.string ⟨#[]⟩,.slice none 0 0,.slice none 0 0]:=by
  have:=CBox.new (w.alloc (.cells #[.int .i64 0,.string ⟨#[]⟩,.string ⟨#[]⟩,.slice none 0 0,.slice none 0 0] 39)) 39 #[.int .i64 0,.string ⟨#[]⟩,.string ⟨#[]⟩,.slice none 0 0,.slice none 0 0];rw [World.size_alloc] at this;exact this.below h3
 have hC:CBox (((w.alloc (.cells #[.int .i64 0,.string ⟨#[]⟩,.string ⟨#[]⟩,.slice none 0 0,.slice none 0 0] 39)).alloc (.cells #[.int .i64 0,.string ⟨#[]⟩,.string ⟨#[]⟩,.slice none 0 0,.slice none 0 0] 39)).alloc (.cells #[.string S,.int .i64 0,.bool false] 103)) (w.heap.size+1+1) 103 #[.string S,.int .i64 0,.bool false]:=by
  have:=CBox.new ((w.alloc (.cells #[.int .i64 0,.string ⟨#[]⟩,.string ⟨#[]⟩,.slice none 0 0,.slice none 0 0] 39)).alloc (.cells #[.int .i64 0,.string ⟨#[]⟩,.string ⟨#[]⟩,.slice none 0 0,.slice none 0 0] 39)) 103 #[.string S,.int .i64 0,.bool false];rw [World.size_alloc,World.size_alloc] at this;exact this
 have hB0:=zA (zA h1 h2) h3;clear h1 h2 h3
 have hC0:CBox (((w.alloc (.cells #[.int .i64 0,.string ⟨#[]⟩,.string ⟨#[]⟩,.slice none 0 0,.slice none 0 0] 39)).alloc (.cells #[.int .i64 0,.string ⟨#[]⟩,.string ⟨#[]⟩,.slice none 0 0,.slice none 0 0] 39)).alloc (.cells #[.string S,.int .i64 0,.bool false] 103)) (w.heap.size+1+1) 103 #[.string ⟨s0.rest.toArray⟩,.int .i64 s0.left,.bool s0.bad]:=by
  rw [←hs0,←hS];exact hC
 clear hC hs0 hs hS
 go_enter Tryz.func24,Tryz.ntmps24
 go_upto_region 3 with (fail)
 generalize ((w.alloc (.cells #[.int .i64 0,.string ⟨#[]⟩,.string ⟨#[]⟩,.slice none 0 0,.slice none 0 0] 39)).alloc (.cells #[.int .i64 0,.string ⟨#[]⟩,.string ⟨#[]⟩,.slice none 0 0,.slice none 0 0] 39)).alloc (.cells #[.string S,.int .i64 0,.bool false] 103)=v0 at *;obtain ⟨R,hRe⟩:∃R,w.heap.size=R:=⟨_,rfl⟩;obtain ⟨E,hEe⟩:∃E,R+1=E:=⟨_,rfl⟩;obtain ⟨C,hCe⟩:∃C,E+1=C:=⟨_,rfl⟩;have HB0:=lH hB0;rw [hRe] at hR hE hC0 ⊢;rw [hEe] at hE hC0;rw [hCe] at hC0
 (try rw [hEe])
 (try rw [hCe])
 have HRW:Hid (w.heap.size=R):=hRe;have hRE:R<E:=by omega
 have hEC:E<C:=by omega
 have hRC:R<C:=by omega
 have HC0:=lH hC0;have HE0:=lH hE;have HR0:=lH hR;clear hC0 hE hR hCe hEe hRe hB0;have hr11:=(zAn s0).1;have hle11:(qdN s0).2.left≤1000000:=by have:=(zAn s0).2.2;omega
 have HCA:=zBl s0 v0 hl0;obtain ⟨p11,hp11⟩:∃p,qdN s0=p:=⟨_,rfl⟩;rw [hp11] at HCA hr11 hle11 HPE;obtain ⟨ka,s11⟩:=p11;unfold SqV at HCA;simp only at HCA hr11 hle11 HPE
 have hl11:s11.rest.length≤1000000:=Nat.le_trans hr11 hl0;have hf11:s11.left≤1000000:=hle11;replace HCA:=lH HCA;clear hp11 hr11 hle11;obtain ⟨c0,c1,c2,cl⟩:=zAh HC0.o;go_wp2_with (fail)
 refine HCA.o.mono ?_;rintro e w11 ⟨rfl,hb11⟩;have hE:=HE0.o.below hb11;have hR:=HR0.o.below hb11;have hC:=HC0.o.below hb11;have hB:=HB0.o.trans (hb11.mono HB0.o.size);clear HCA hb11 c0 c1 c2 cl HE0 HR0 HC0 HB0;have e0:=hE.cell (i:=0) (v:=.int .i64 0) rfl;have ef:=hE.frozen 0;have el:=hE.lt;obtain ⟨c0,c1,c2,cl⟩:=zAh hC;obtain ⟨f0,f1,f2⟩:=zAu hC;go_upto_region 4 with (fail)
 clear c0 c1 c2 f0 f1 f2 cl e0 ef el;have hm1:Mod [E] w11 (w11.setCell ⟨E,0,none⟩ (.int .i64 ka)):=((Mod.refl [E] w11).setCell (p:=⟨E,0,none⟩) (List.mem_singleton.2 rfl) _);have hE1:CBox (w11.setCell ⟨E,0,none⟩ (.int .i64 ka)) E 39 #[.int .i64 ka,.string ⟨#[]⟩,.string ⟨#[]⟩,.slice none 0 0,.slice none 0 0]:=hE.set 0 _;have hC1:=CBox.mod hC hm1 zAe;have hR1:=CBox.mod hR hm1 zAe;have hB1:=hB.trans (hm1.upto hB.size (fun g hg=>by rw [List.mem_singleton.1 hg,HRW.o];omega))
 obtain ⟨hC2,hm2⟩:=CBox.threes hC1 (.string ⟨s11.rest.toArray⟩) (.int .i64 s11.left) (.bool s11.bad);generalize World.setCell _ ⟨C,2,none⟩ _=v11 at *;have HE11:=CBox.modh hE1 hm2;have HR11:=CBox.modh hR1 hm2;have HB11:=zAm hB1 hm2 HRW;have HC11:=lH hC2;clear hm1 hm2 hC hC1 hC2 hE hE1 hR hR1 hB hB1;have hr12:=(zBb s11).1;have hle12:(qdT s11).2.left≤1000000:=by have:=(zBb s11).2.2.1;omega
 have HCA:=zEi s11 v11 hl11;obtain ⟨p12,hp12⟩:∃p,qdT s11=p:=⟨_,rfl⟩;rw [hp12] at HCA hr12 hle12 HPE;obtain ⟨tb,s12⟩:=p12;unfold SqV at HCA;simp only at HCA hr12 hle12 HPE
 have hl12:s12.rest.length≤1000000:=Nat.le_trans hr12 hl11;have hf12:s12.left≤1000000:=hle12;replace HCA:=lH HCA;clear hp12 hr12 hle12;obtain ⟨c0,c1,c2,cl⟩:=zAh HC11.o;go_wp2_with (fail)
 refine HCA.o.mono ?_;rintro e w12 ⟨rfl,hb12⟩;have hE:=HE11.o.below hb12;have hR:=HR11.o.below hb12;have hC:=HC11.o.below hb12;have hB:=HB11.o.trans (hb12.mono HB11.o.size);clear HCA hb12 c0 c1 c2 cl HE11 HR11 HC11 HB11;have e1:=hE.cell (i:=1) (v:=.string ⟨#[]⟩) rfl;have ef:=hE.frozen 1;have el:=hE.lt;obtain ⟨c0,c1,c2,cl⟩:=zAh hC;obtain ⟨f0,f1,f2⟩:=zAu hC;go_upto_region 5 with (fail)
 clear c0 c1 c2 f0 f1 f2 cl e1 ef el;have hm1:Mod [E] w12 (w12.setCell ⟨E,1,none⟩ (.string tb)):=((Mod.refl [E] w12).setCell (p:=⟨E,1,none⟩) (List.mem_singleton.2 rfl) _);have hE1:CBox (w12.setCell ⟨E,1,none⟩ (.string tb)) E 39 #[.int .i64 ka,.string tb,.string ⟨#[]⟩,.slice none 0 0,.slice none 0 0]:=hE.set 1 _;have hC1:=CBox.mod hC hm1 zAe;have hR1:=CBox.mod hR hm1 zAe;have hB1:=hB.trans (hm1.upto hB.size (fun g hg=>by rw [List.mem_singleton.1 hg,HRW.o];omega))
 obtain ⟨hC2,hm2⟩:=CBox.threes hC1 (.string ⟨s12.rest.toArray⟩) (.int .i64 s12.left) (.bool s12.bad);generalize World.setCell _ ⟨C,2,none⟩ _=v12 at *;have HE12:=CBox.modh hE1 hm2;have HR12:=CBox.modh hR1 hm2;have HB12:=zAm hB1 hm2 HRW;have HC12:=lH hC2;clear hm1 hm2 hC hC1 hC2 hE hE1 hR hR1 hB hB1;have hr13:=(zBb s12).1;have hle13:(qdT s12).2.left≤1000000:=by have:=(zBb s12).2.2.1;omega
 have HCA:=zEi s12 v12 hl12;obtain ⟨p13,hp13⟩:∃p,qdT s12=p:=⟨_,rfl⟩;rw [hp13] at HCA hr13 hle13 HPE;obtain ⟨tc,s13⟩:=p13;unfold SqV at HCA;simp only at HCA hr13 hle13 HPE
 have hl13:s13.rest.length≤1000000:=Nat.le_trans hr13 hl12;have hf13:s13.left≤1000000:=hle13;replace HCA:=lH HCA;clear hp13 hr13 hle13;obtain ⟨c0,c1,c2,cl⟩:=zAh HC12.o;go_wp2_with (fail)
 refine HCA.o.mono ?_;rintro e w13 ⟨rfl,hb13⟩;have hE:=HE12.o.below hb13;have hR:=HR12.o.below hb13;have hC:=HC12.o.below hb13;have hB:=HB12.o.trans (hb13.mono HB12.o.size);clear HCA hb13 c0 c1 c2 cl HE12 HR12 HC12 HB12;have e2:=hE.cell (i:=2) (v:=.string ⟨#[]⟩) rfl;have ef:=hE.frozen 2;have el:=hE.lt;obtain ⟨c0,c1,c2,cl⟩:=zAh hC;obtain ⟨f0,f1,f2⟩:=zAu hC;go_upto_region 6 with (fail)
 clear c0 c1 c2 f0 f1 f2 cl e2 ef el;have hm1:Mod [E] w13 (w13.setCell ⟨E,2,none⟩ (.string tc)):=((Mod.refl [E] w13).setCell (p:=⟨E,2,none⟩) (List.mem_singleton.2 rfl) _);have hE1:CBox (w13.setCell ⟨E,2,none⟩ (.string tc)) E 39 #[.int .i64 ka,.string tb,.string tc,.slice none 0 0,.slice none 0 0]:=hE.set 2 _;have hC1:=CBox.mod hC hm1 zAe;have hR1:=CBox.mod hR hm1 zAe;have hB1:=hB.trans (hm1.upto hB.size (fun g hg=>by rw [List.mem_singleton.1 hg,HRW.o];omega))
 obtain ⟨hC2,hm2⟩:=CBox.threes hC1 (.string ⟨s13.rest.toArray⟩) (.int .i64 s13.left) (.bool s13.bad);generalize World.setCell _ ⟨C,2,none⟩ _=v13 at *;have HE13:=CBox.modh hE1 hm2;have HR13:=CBox.modh hR1 hm2;have HB13:=zAm hB1 hm2 HRW;have HC13:=lH hC2;clear hm1 hm2 hC hC1 hC2 hE hE1 hR hR1 hB hB1;have hr14:=(zGc (N:=1000000) s13 hl13).2.2;have hle14:=zRg s13 hf13
 have hX14:∀k∈[R,E,C],k<v13.heap.size:=by
  intro k hk;simp only [List.mem_cons,List.not_mem_nil,or_false] at hk
  rcases hk with rfl|rfl|rfl
  ·exact HR13.o.lt
  ·exact HE13.o.lt
  ·exact HC13.o.lt
 have HCA:=zNk s13 [R,E,C] v13 hl13 hf13 hX14;obtain ⟨p14,hp14⟩:∃p,qdDs s13=p:=⟨_,rfl⟩;rw [hp14] at HCA hr14 hle14 HPE;obtain ⟨lo,s14⟩:=p14;unfold SqV at HCA;simp only at HCA hr14 hle14 HPE
 have hl14:s14.rest.length≤1000000:=Nat.le_trans hr14 hl13;have hf14:s14.left≤1000000:=hle14;replace HCA:=lH HCA;clear hp14 hr14 hle14 hX14;obtain ⟨c0,c1,c2,cl⟩:=zAh HC13.o;go_wp2_with (fail)
 refine HCA.o.mono ?_;rintro e w14 ⟨vlo,clo,rfl,hb14,hd14,hg14,hh14⟩;have hE:=HE13.o.below hb14;have hR:=HR13.o.below hb14;have hC:=HC13.o.below hb14;have hB:=HB13.o.trans (hb14.mono HB13.o.size);clear HCA hb14 c0 c1 c2 cl HE13 HR13 HC13 HB13;have HDlo:=lH hd14;have HFlo:Hid (lo.length≤clo∧clo≤9223372036854775807):=⟨hg14,hh14⟩;clear hd14 hg14 hh14;have e3:=hE.cell (i:=3) (v:=.slice none 0 0) rfl;have ef:=hE.frozen 3;have el:=hE.lt;obtain ⟨c0,c1,c2,cl⟩:=zAh hC;obtain ⟨f0,f1,f2⟩:=zAu hC;go_upto_region 7 with (fail)
 clear c0 c1 c2 f0 f1 f2 cl e3 ef el;have hm1:Mod [E] w14 (w14.setCell ⟨E,3,none⟩ (.slice vlo lo.length clo)):=((Mod.refl [E] w14).setCell (p:=⟨E,3,none⟩) (List.mem_singleton.2 rfl) _);have hE1:CBox (w14.setCell ⟨E,3,none⟩ (.slice vlo lo.length clo)) E 39 #[.int .i64 ka,.string tb,.string tc,.slice vlo lo.length clo,.slice none 0 0]:=hE.set 3 _;have hC1:=CBox.mod hC hm1 zAe;have hR1:=CBox.mod hR hm1 zAe;have hB1:=hB.trans (hm1.upto hB.size (fun g hg=>by rw [List.mem_singleton.1 hg,HRW.o];omega))
 obtain ⟨hC2,hm2⟩:=CBox.threes hC1 (.string ⟨s14.rest.toArray⟩) (.int .i64 s14.left) (.bool s14.bad);generalize World.setCell _ ⟨C,2,none⟩ _=v14 at *;have HE14:=CBox.modh hE1 hm2;have HR14:=CBox.modh hR1 hm2;have HB14:=zAm hB1 hm2 HRW;have HC14:=lH hC2;replace HDlo:=lH ((HDlo.o.mod (hm1.mono (fun k hk=>by rw [List.mem_singleton.1 hk];simp))).mod (hm2.mono (fun k hk=>by rw [List.mem_singleton.1 hk];simp)));clear hm1 hm2 hC hC1 hC2 hE hE1 hR hR1 hB hB1;have hr15:=(zGc (N:=1000000) s14 hl14).2.2;have hle15:=zRg s14 hf14
 have hX15:∀k∈[R,E,C],k<v14.heap.size:=by
  intro k hk;simp only [List.mem_cons,List.not_mem_nil,or_false] at hk
  rcases hk with rfl|rfl|rfl
  ·exact HR14.o.lt
  ·exact HE14.o.lt
  ·exact HC14.o.lt
 have HCA:=zNk s14 [R,E,C] v14 hl14 hf14 hX15;obtain ⟨p15,hp15⟩:∃p,qdDs s14=p:=⟨_,rfl⟩;rw [hp15] at HCA hr15 hle15 HPE;obtain ⟨lf,s15⟩:=p15;unfold SqV at HCA;simp only at HCA hr15 hle15 HPE
 have hl15:s15.rest.length≤1000000:=Nat.le_trans hr15 hl14;have hf15:s15.left≤1000000:=hle15;replace HCA:=lH HCA;clear hp15 hr15 hle15 hX15;obtain ⟨c0,c1,c2,cl⟩:=zAh HC14.o;go_wp2_with (fail)
 refine HCA.o.mono ?_;rintro e w15 ⟨vlf,clf,rfl,hb15,hd15,hg15,hh15⟩;have hE:=HE14.o.below hb15;have hR:=HR14.o.below hb15;have hC:=HC14.o.below hb15;have hB:=HB14.o.trans (hb15.mono HB14.o.size);replace HDlo:=lH (HDlo.o.below hb15);clear HCA hb15 c0 c1 c2 cl HE14 HR14 HC14 HB14;have HDlf:=lH hd15;have HFlf:Hid (lf.length≤clf∧clf≤9223372036854775807):=⟨hg15,hh15⟩;clear hd15 hg15 hh15;have e4:=hE.cell (i:=4) (v:=.slice none 0 0) rfl;have ef:=hE.frozen 4;have el:=hE.lt;obtain ⟨c0,c1,c2,cl⟩:=zAh hC
 obtain ⟨f0,f1,f2⟩:=zAu hC;go_upto_region 8 with (fail)
 clear c0 c1 c2 f0 f1 f2 cl e4 ef el;have hm1:Mod [E] w15 (w15.setCell ⟨E,4,none⟩ (.slice vlf lf.length clf)):=((Mod.refl [E] w15).setCell (p:=⟨E,4,none⟩) (List.mem_singleton.2 rfl) _);have hE1:CBox (w15.setCell ⟨E,4,none⟩ (.slice vlf lf.length clf)) E 39 #[.int .i64 ka,.string tb,.string tc,.slice vlo lo.length clo,.slice vlf lf.length clf]:=hE.set 4 _;have hC1:=CBox.mod hC hm1 zAe;have hR1:=CBox.mod hR hm1 zAe;have hB1:=hB.trans (hm1.upto hB.size (fun g hg=>by rw [List.mem_singleton.1 hg,HRW.o];omega))
 obtain ⟨hC2,hm2⟩:=CBox.threes hC1 (.string ⟨s15.rest.toArray⟩) (.int .i64 s15.left) (.bool s15.bad);generalize World.setCell _ ⟨C,2,none⟩ _=v15 at *;have HE15:=CBox.modh hE1 hm2;have HR15:=CBox.modh hR1 hm2;have HB15:=zAm hB1 hm2 HRW;have HC15:=lH hC2;replace HDlo:=lH ((HDlo.o.mod (hm1.mono (fun k hk=>by rw [List.mem_singleton.1 hk];simp))).mod (hm2.mono (fun k hk=>by rw [List.mem_singleton.1 hk];simp)))
 replace HDlf:=lH ((HDlf.o.mod (hm1.mono (fun k hk=>by rw [List.mem_singleton.1 hk];simp))).mod (hm2.mono (fun k hk=>by rw [List.mem_singleton.1 hk];simp)));clear hm1 hm2 hC hC1 hC2 hE hE1 hR hR1 hB hB1;have HPE2:Hid (P=((⟨ka,tb,tc,lo,lf⟩:OEdit),s15)):=HPE;clear HPE;have HP:=HPE2.o;subst HP;clear HPE2;simp only at HSM HD0 HD1 HD2
 obtain ⟨l,lef,bd⟩:=s15;have k2:=HC15.o.cell (i:=2) (v:=.bool bd) rfl;have kl:=HC15.o.lt;simp only at HD0 HD1 HD2
 cases bd with
 | true=>
  have HRx:=HR15;have HBx:=HB15;have HQ:Hid (Q=(zeroE,13)):=HD0.o rfl;clear HD0 HD1 HD2 HE15 HC15 HB15;have a0:=HRx.o.cell (i:=0) (v:=.int .i64 0) rfl;have b0:=HRx.o.frozen 0;have a1:=HRx.o.cell (i:=1) (v:=.string ⟨#[]⟩) rfl;have b1:=HRx.o.frozen 1;have a2:=HRx.o.cell (i:=2) (v:=.string ⟨#[]⟩) rfl;have b2:=HRx.o.frozen 2;have a3:=HRx.o.cell (i:=3) (v:=.slice none 0 0) rfl;have b3:=HRx.o.frozen 3;have a4:=HRx.o.cell (i:=4) (v:=.slice none 0 0) rfl;have b4:=HRx.o.frozen 4;have al:=HRx.o.lt;go_wp2
  clear a0 b0 a1 b1 a2 b2 a3 b3 a4 b4 al;obtain ⟨hp1,hp2⟩:=CBox.fives HRx.o (.int .i64 0) (.string ⟨#[]⟩) (.string ⟨#[]⟩) (.slice none 0 0) (.slice none 0 0);have r0:=hp1.cell (i:=0) (v:=.int .i64 0) rfl;have r1:=hp1.cell (i:=1) (v:=.string ⟨#[]⟩) rfl;have r2:=hp1.cell (i:=2) (v:=.string ⟨#[]⟩) rfl;have r3:=hp1.cell (i:=3) (v:=.slice none 0 0) rfl;have r4:=hp1.cell (i:=4) (v:=.slice none 0 0) rfl;refine bodyPost_ret (by simp [results,Tryz.results24,go_sem,r0,r1,r2,r3,r4];try rfl) rfl ?_
  have hbe:=HBx.o.trans (hp2.upto HBx.o.size (fun g hg=>by rw [List.mem_singleton.1 hg,HRW.o];omega));refine ⟨none,0,none,0,?_,?_,hbe⟩
  ·rw [HQ.o];rfl
  ·rw [HQ.o];exact zDe _
 | false=>
  have hE1:=HD1.o rfl;have hE2:=HD2.o rfl;clear HD0 HD1 HD2;have HD1:=lH hE1;have HD2:=lH hE2;clear hE1 hE2;have HED:Hid (EditIn v15 ⟨ka,tb,tc,lo,lf⟩ vlo clo vlf clf):=⟨HDlo.o.free,HDlf.o.free,HFlo.o.1,HFlo.o.2,HFlf.o.1,HFlf.o.2⟩;have HCA:=zTh ⟨ka,tb,tc,lo,lf⟩ vlo clo vlf clf v15 HED.o HSM.o;have HEX:=HES.o ⟨ka,tb,tc,lo,lf⟩
  have HZE:Hid (∀ex:ByteArray,(editErr ⟨ka,tb,tc,lo,lf⟩=0→ex=⟨(encE ⟨ka,tb,tc,lo,lf⟩).toArray⟩)→editErr ⟨ka,tb,tc,lo,lf⟩=0→(ex.toList==S.toList)=false→Q=(zeroE,13)):=fun ex h1 h2 h3=>HD2.o (fun ⟨_,h⟩=>by
   rw [h1 h2,HSS.o,h] at h3
   simp at h3)
  have HZS:Hid (∀ex:ByteArray,(editErr ⟨ka,tb,tc,lo,lf⟩=0→ex=⟨(encE ⟨ka,tb,tc,lo,lf⟩).toArray⟩)→editErr ⟨ka,tb,tc,lo,lf⟩=0→(ex.toList==S.toList)=true→Q=(⟨ka,tb,tc,lo,lf⟩,0)):=fun ex h1 h2 h3=>HD1.o h2 (by
   have h4:=eq_of_beq h3;rw [h1 h2,HSS.o,tl,tl] at h4
   simpa using h4)
  have HZN:Hid (editErr ⟨ka,tb,tc,lo,lf⟩≠0→Q=(zeroE,13)):=fun h=>HD2.o (fun ⟨h1,_⟩=>h h1);unfold editV at HCA;simp only at HCA
  replace HEX:=lH HEX;replace HCA:=lH HCA;generalize encS ⟨ka,tb,tc,lo,lf⟩=ex at *;generalize editErr ⟨ka,tb,tc,lo,lf⟩=er at *;clear HD1 HD2 HES HSS HSM HED;have e0:=HE15.o.cell (i:=0) (v:=.int .i64 ka) rfl;have e1:=HE15.o.cell (i:=1) (v:=.string tb) rfl;have e2:=HE15.o.cell (i:=2) (v:=.string tc) rfl;have e3:=HE15.o.cell (i:=3) (v:=.slice vlo lo.length clo) rfl;have e4:=HE15.o.cell (i:=4) (v:=.slice vlf lf.length clf) rfl;have el:=HE15.o.lt;go_wp2_with (fail)
  refine HCA.o.mono ?_;rintro e v16 ⟨rfl,hb16⟩;clear HCA k2 kl e0 e1 e2 e3 e4 el;have HRx:=lH (CBox.below HR15.o hb16);have HEx:=lH (CBox.below HE15.o hb16);have HBx:=lH (zA HB15.o hb16);replace HDlo:=lH (HDlo.o.below hb16);replace HDlf:=lH (HDlf.o.below hb16);clear hb16 HC15 HR15 HE15 HB15
  by_cases h0:er=0
  ·have q1:(er != 0)=false:=by rw [h0];rfl
   cases hx:(ex.toList==S.toList) with
   | false=>
    have HQ:=lH (HZE.o ex HEX.o h0 hx);clear HZE HZS HZN HEX HEx;have a0:=HRx.o.cell (i:=0) (v:=.int .i64 0) rfl;have b0:=HRx.o.frozen 0;have a1:=HRx.o.cell (i:=1) (v:=.string ⟨#[]⟩) rfl;have b1:=HRx.o.frozen 1;have a2:=HRx.o.cell (i:=2) (v:=.string ⟨#[]⟩) rfl;have b2:=HRx.o.frozen 2;have a3:=HRx.o.cell (i:=3) (v:=.slice none 0 0) rfl;have b3:=HRx.o.frozen 3;have a4:=HRx.o.cell (i:=4) (v:=.slice none 0 0) rfl;have b4:=HRx.o.frozen 4;have al:=HRx.o.lt;go_wp2;clear a0 b0 a1 b1 a2 b2 a3 b3 a4 b4 al
    obtain ⟨hp1,hp2⟩:=CBox.fives HRx.o (.int .i64 0) (.string ⟨#[]⟩) (.string ⟨#[]⟩) (.slice none 0 0) (.slice none 0 0);have r0:=hp1.cell (i:=0) (v:=.int .i64 0) rfl;have r1:=hp1.cell (i:=1) (v:=.string ⟨#[]⟩) rfl;have r2:=hp1.cell (i:=2) (v:=.string ⟨#[]⟩) rfl;have r3:=hp1.cell (i:=3) (v:=.slice none 0 0) rfl;have r4:=hp1.cell (i:=4) (v:=.slice none 0 0) rfl;refine bodyPost_ret (by simp [results,Tryz.results24,go_sem,r0,r1,r2,r3,r4];try rfl) rfl ?_
    have hbe:=HBx.o.trans (hp2.upto HBx.o.size (fun g hg=>by rw [List.mem_singleton.1 hg,HRW.o];omega));refine ⟨none,0,none,0,?_,?_,hbe⟩
    ·rw [HQ.o];rfl
    ·rw [HQ.o];exact zDe _
   | true=>
    have HQ:=lH (HZS.o ex HEX.o h0 hx);clear HZE HZS HZN HEX;have e0:=HEx.o.cell (i:=0) (v:=.int .i64 ka) rfl;have e1:=HEx.o.cell (i:=1) (v:=.string tb) rfl;have e2:=HEx.o.cell (i:=2) (v:=.string tc) rfl;have e3:=HEx.o.cell (i:=3) (v:=.slice vlo lo.length clo) rfl;have e4:=HEx.o.cell (i:=4) (v:=.slice vlf lf.length clf) rfl;have el:=HEx.o.lt;have a0:=HRx.o.cell (i:=0) (v:=.int .i64 0) rfl;have b0:=HRx.o.frozen 0;have a1:=HRx.o.cell (i:=1) (v:=.string ⟨#[]⟩) rfl;have b1:=HRx.o.frozen 1
    have a2:=HRx.o.cell (i:=2) (v:=.string ⟨#[]⟩) rfl;have b2:=HRx.o.frozen 2;have a3:=HRx.o.cell (i:=3) (v:=.slice none 0 0) rfl;have b3:=HRx.o.frozen 3;have a4:=HRx.o.cell (i:=4) (v:=.slice none 0 0) rfl;have b4:=HRx.o.frozen 4;have al:=HRx.o.lt;go_wp2;clear a0 b0 a1 b1 a2 b2 a3 b3 a4 b4 al;obtain ⟨hp1,hp2⟩:=CBox.fives HRx.o (.int .i64 ka) (.string tb) (.string tc) (.slice vlo lo.length clo) (.slice vlf lf.length clf);have r0:=hp1.cell (i:=0) (v:=.int .i64 ka) rfl;have r1:=hp1.cell (i:=1) (v:=.string tb) rfl
    have r2:=hp1.cell (i:=2) (v:=.string tc) rfl;have r3:=hp1.cell (i:=3) (v:=.slice vlo lo.length clo) rfl;have r4:=hp1.cell (i:=4) (v:=.slice vlf lf.length clf) rfl;refine bodyPost_ret (by simp [results,Tryz.results24,go_sem,r0,r1,r2,r3,r4];try rfl) rfl ?_;have hbe:=HBx.o.trans (hp2.upto HBx.o.size (fun g hg=>by rw [List.mem_singleton.1 hg,HRW.o];omega));refine ⟨vlo,clo,vlf,clf,?_,?_,hbe⟩
    ·rw [HQ.o];rfl
    ·rw [HQ.o]
     exact ⟨(HDlo.o.mod (hp2.mono (fun k hk=>by rw [List.mem_singleton.1 hk];simp))).free,(HDlf.o.mod (hp2.mono (fun k hk=>by rw [List.mem_singleton.1 hk];simp))).free,HFlo.o.1,HFlo.o.2,HFlf.o.1,HFlf.o.2⟩
  ·have q1:(er != 0)=true:=by simp [h0]
   have HQ:=lH (HZN.o h0);clear HZE HZS HZN HEX HEx h0;have a0:=HRx.o.cell (i:=0) (v:=.int .i64 0) rfl;have b0:=HRx.o.frozen 0;have a1:=HRx.o.cell (i:=1) (v:=.string ⟨#[]⟩) rfl;have b1:=HRx.o.frozen 1;have a2:=HRx.o.cell (i:=2) (v:=.string ⟨#[]⟩) rfl;have b2:=HRx.o.frozen 2;have a3:=HRx.o.cell (i:=3) (v:=.slice none 0 0) rfl;have b3:=HRx.o.frozen 3;have a4:=HRx.o.cell (i:=4) (v:=.slice none 0 0) rfl;have b4:=HRx.o.frozen 4;have al:=HRx.o.lt;go_wp2;clear a0 b0 a1 b1 a2 b2 a3 b3 a4 b4 al
   obtain ⟨hp1,hp2⟩:=CBox.fives HRx.o (.int .i64 0) (.string ⟨#[]⟩) (.string ⟨#[]⟩) (.slice none 0 0) (.slice none 0 0);have r0:=hp1.cell (i:=0) (v:=.int .i64 0) rfl;have r1:=hp1.cell (i:=1) (v:=.string ⟨#[]⟩) rfl;have r2:=hp1.cell (i:=2) (v:=.string ⟨#[]⟩) rfl;have r3:=hp1.cell (i:=3) (v:=.slice none 0 0) rfl;have r4:=hp1.cell (i:=4) (v:=.slice none 0 0) rfl;refine bodyPost_ret (by simp [results,Tryz.results24,go_sem,r0,r1,r2,r3,r4];try rfl) rfl ?_
   have hbe:=HBx.o.trans (hp2.upto HBx.o.size (fun g hg=>by rw [List.mem_singleton.1 hg,HRW.o];omega));refine ⟨none,0,none,0,?_,?_,hbe⟩
   ·rw [HQ.o];rfl
   ·rw [HQ.o];exact zDe _
end Go.Proofs.YtfkjfdbjhlmjcaaGreatDoor
