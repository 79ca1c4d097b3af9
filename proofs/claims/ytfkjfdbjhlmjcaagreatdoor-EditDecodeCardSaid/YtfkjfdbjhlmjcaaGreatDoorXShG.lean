/- The library's contract of slices.Grow at this program, as the kit's shelf lays it. -/
import Derived.Shelf.Spec.SlicesGrow
import Derived.Test.YtfkjfdbjhlmjcaaGreatDoorXSEi
set_option maxRecDepth 100000
set_option maxHeartbeats 16000000
namespace Go.Proofs
open Go.Shelf
def Tryz.grow0_ren:Go.Shelf.Ren:=⟨fun|4=>148|n=>n,fun|22=>37|25=>62|3=>3|4=>4|9=>9|20=>20|0=>0|n=>n,fun|n=>n⟩
theorem Tryz.grow0:Go.Proofs.Lays8.n4 Tryz.prog Tryz.grow0_ren:={
 mixed:=by kernel_rfl
 f4:=⟨Tryz.f148.name,by decide,Tryz.func148.trans (congrArg some (by kernel_rfl))⟩
 t0:=Tryz.underlying0
 a0:=Tryz.isAgg0
 z0:=Tryz.sizeOf0
 v0:=Tryz.zeroValue0
 t3:=Tryz.underlying3
 a3:=Tryz.isAgg3
 z3:=Tryz.sizeOf3
 v3:=Tryz.zeroValue3
 t4:=Tryz.underlying4
 a4:=Tryz.isAgg4
 z4:=Tryz.sizeOf4
 v4:=Tryz.zeroValue4
 t9:=Tryz.underlying9
 a9:=Tryz.isAgg9
 z9:=Tryz.sizeOf9
 v9:=Tryz.zeroValue9
 t20:=Tryz.underlying20
 a20:=Tryz.isAgg20
 z20:=Tryz.sizeOf20
 v20:=Tryz.zeroValue20
 t22:=Tryz.underlying37
 a22:=Tryz.isAgg37
 z22:=Tryz.sizeOf37
 v22:=Tryz.zeroValue37 }
end Go.Proofs
namespace Go.Proofs.YtfkjfdbjhlmjcaaGreatDoor
open Go.RowKit Go.Shelf
attribute [local go_sem] Oper.semAt_some
theorem zHc:(Tryz.prog.info? 62).map (fun i=>(i.zero.map (fun z=>z.cells.size),i.size,i.bytes))=some (some 11,11,136):=by kernel_rfl
theorem zBh {P:Program} {e:TypeId} {s sz b:Nat} (h:(P.info? e).map (fun i=>(i.zero.map (fun z=>z.cells.size),i.size,i.bytes))=some (some s,sz,b)):∃i z,P.info? e=some i∧i.zero=some z∧z.cells.size=s∧i.size=sz∧i.bytes=b:=by
 obtain ⟨i,hi,h2⟩:=Option.map_eq_some_iff.1 h
 injection h2 with e1 e2
 injection e2 with e2 e3
 obtain ⟨z,hz,e1⟩:=Option.map_eq_some_iff.1 e1;exact ⟨i,z,hi,hz,e1,e2,e3⟩
theorem zDp {w:World} {X:List Nat}:∀{l:List ODecl} {xs:List Value},ReadsL w X (l.flatMap declT) xs→∀u∈xs,u.oneCell'=true:=by
 intro l
 induction l with
 | nil=>intro xs h;rw [List.flatMap_nil,ReadsL] at h;subst h;intro u hu;cases hu
 | cons y r ih=>
  intro xs h u hu;rw [List.flatMap_cons] at h;have h1:=h.take 11;have h2:=h.drop 11;rw [List.take_left' (zDa y)] at h1;rw [List.drop_left' (zDa y)] at h2;rw [←List.take_append_drop 11 xs,List.mem_append] at hu
  rcases hu with hu|hu
  ·obtain ⟨an,cn,sa,c,e,_⟩:=zLy h1
   rw [e] at hu;simp only [declL,List.mem_cons,List.not_mem_nil,or_false] at hu
   rcases hu with rfl|rfl|rfl|rfl|rfl|rfl|rfl|rfl|rfl|rfl|rfl<;>rfl
  ·exact ih h2 u hu
theorem zYi (n:Nat) (hn:n≤4000000) (w:World) :
  Calls Tryz.prog 148 #[.slice none 0 0,.int .i64 n] w fun e w'=>∃v,e=.returned v∧w'.ownsRow w.heap.size 62 11 v 0 []∧Bw w w':=by
 rcases Nat.eq_zero_or_pos n with rfl|h
 ·refine (Any8.slices_Grow_room Tryz.grow0 none 0 0 0 w (Nat.le_refl _) (by omega) (by omega) (by omega)).mono ?_
  rintro e w' ⟨rfl,rfl⟩;exact ⟨_,rfl,World.ownsRow_nil _ _ _ _,zAl _⟩
 ·obtain ⟨i,z,hi,hz,hzs,hs,hb⟩:=zBh zHc
  refine (Any8.slices_Grow_grow Tryz.grow0 i z hi hz (by omega) none 0 0 n [] w (Nat.le_refl _) (by omega) (by rw [hb];omega) (by omega) (by simp) (fun _=>rfl) (fun _ h=>by cases h)).mono ?_;rintro e w' ⟨rfl,rfl⟩;refine ⟨_,rfl,?_,?_⟩
  ·have hge:=grownCap_ge w (0+n) 0 62
   refine World.ownsRow_made (base:=w.heap.size) (size:=11) w.drew _ _ (Nat.le_refl _) (grownCap_le_maxLen w _ _ _ (by unfold maxLen;omega)) ?_;have e1:Tryz.grow0_ren.t 25=62:=rfl;rw [e1];simp only [Array.size_append,size_zeroCells,hzs,List.size_toArray,List.length_nil]
   omega
  ·exact ((Mod.refl [] w).drew.alloc _).below
theorem zSc (l1 l2:List ODecl) (a1 a2:Option Addr) (c1 c2 b:Nat) (w:World) (h1:Reads w [] (declsT l1) (.slice a1 l1.length c1)) (h2:Reads w [] (declsT l2) (.slice a2 l2.length c2)) (hb:b<w.heap.size)
  (hc0:w.cell? ⟨b,0,none⟩=some (.slice a1 l1.length c1)) (hc1:w.cell? ⟨b,1,none⟩=some (.slice a2 l2.length c2)) (hn1:l1.length≤1000000) (hn2:l2.length≤1000000) :
  Calls Tryz.prog 104 #[.slice (some ⟨b,0,none⟩) 2 2] w fun e w'=>∃a c,e=.returned (.slice a (l1++l2).length c)∧Reads w' [] (declsT (l1++l2)) (.slice a (l1++l2).length c)∧Bw w w':=by
 obtain ⟨i0,z,hi,hz0,hzs,hz1,hz2⟩:=zBh zHc;obtain ⟨N,hN⟩:∃N:Nat,N=l1.length+l2.length:=⟨_,rfl⟩;have HG:=lH (zYi N (by omega) w);obtain ⟨xs1,hr1,-,hx1⟩:=Reads.toRow h1;obtain ⟨xs2,hr2,-,hx2⟩:=Reads.toRow h2;have HR1:=lH hr1;have HR2:=lH hr2;have HO1:=lH (zDp hx1);have HO2:=lH (zDp hx2);have HX1:=lH hx1;have HX2:=lH hx2;have HX:Hid (ReadsL w [] ((l1++l2).flatMap declT) (xs1++xs2)):=by show ReadsL _ _ _ _;rw [List.flatMap_append];exact ReadsL.append hx2 hx1
 obtain ⟨S,XS,hS0,hX0,hS2,hX2,hK⟩:∃(S:Nat→Nat) (XS:Nat→List Value),S 0=0∧XS 0=[]∧S 2=N∧XS 2=xs1++xs2 ∧
   ∀k,k<2→∃a n c xs,w.cell? ⟨b,k,none⟩=some (.slice a n c)∧S (k+1)=S k+n∧S (k+1)≤2000000∧IsRow w 11 (.slice a n c) n xs∧(∀u∈xs,u.oneCell'=true)∧XS (k+1)=XS k++xs:=by
  refine ⟨fun k=>if k=0 then 0 else if k=1 then l1.length else N,fun k=>if k=0 then [] else if k=1 then xs1 else xs1++xs2,rfl,rfl,rfl,rfl,fun k hk=>?_⟩
  match k,hk with
  | 0,_=>exact ⟨a1,l1.length,c1,xs1,hc0,by simp,by simp;omega,hr1,zDp hx1,by simp⟩
  | 1,_=>exact ⟨a2,l2.length,c2,xs2,hc1,by simp;omega,by simp;omega,hr2,zDp hx2,by simp⟩
 have HK:=lH hK;have HS0:=lH hS0;have HX0:=lH hX0;have HS2:=lH hS2;have HX2':=lH hX2;have HN:=lH hN;clear hN h1 h2 hr1 hr2 hx1 hx2 hS0 hX0 hS2 hX2 hK hc0 hc1 HR1 HR2 HO1 HO2 HX1 HX2
 go_enter Tryz.func104,Tryz.ntmps104
 go_wp2
 go_loop [3,11] (fun sv iv=>∃k:Nat,k≤2∧iv=.int .i64 k∧sv=.int .i64 (S k:Int)) (fun _ iv=>2 - (intOf iv).toNat)
 case atStart=>exact ⟨0,by omega,rfl,by rw [HS0.o];rfl⟩
 case round=>
  obtain ⟨k,hk,rfl,rfl⟩:=hrel
  by_cases hk2:k<2
  ·have hd:decide ((k:Int)<2)=true:=decide_eq_true (by omega)
   have hir:(k:Int)<2:=by omega
   obtain ⟨a,n,c,xs,hcell,hs1,hs2,-⟩:=HK.o k hk2;have HS1:=lH hs1;have q:wrap64 ((S k:Int)+(n:Int))=(S (k+1):Int):=by rw [hs1];unfold wrap64;omega
   have HQ:=lH q;clear hs1;have q3:¬((S (k+1):Int)<0):=by omega
   go_wp2
   go_round
   case rel=>exact ⟨k+1,by omega,by go_num,by rw [HQ.o]⟩
   case measure=>simp [intOf];omega
  ·have hd:decide ((k:Int)<2)=false:=decide_eq_false (by omega)
   obtain rfl:k=2:=by omega
   have HG2:Hid (Calls Tryz.prog 148 #[.slice none 0 0,.int .i64 (S 2:Int)] w fun e w'=>∃v,e=.returned v∧w'.ownsRow w.heap.size 62 11 v 0 []∧Bw w w'):=by show Calls _ _ _ _ _;rw [HS2.o];exact HG.o
   clear HG hk hk2;go_wp2_with (fail)
   refine HG2.o.mono ?_;rintro e w1 ⟨v,rfl,hown,hb1⟩;have HOW:=lH hown;clear hown HG2 hd;go_wp2
   go_loopw [6,27] (fun sv iv wr=>∃k:Nat,k≤2∧iv=.int .i64 k∧Hid (wr.ownsRow w.heap.size 62 11 sv (S k) (XS k))∧Bw w wr) (fun _ iv _=>2 - (intOf iv).toNat)
   case atStart=>exact ⟨0,by omega,rfl,by rw [HS0.o,HX0.o];exact HOW,hb1⟩
   case round=>
    obtain ⟨k,hk,rfl,HO,hb'⟩:=hrel;clear HOW
    by_cases hk2:k<2
    ·have hd:decide ((k:Int)<2)=true:=decide_eq_true (by omega)
     have hir:(k:Int)<2:=by omega
     obtain ⟨a,n,c,xs,hcell,hs1,hs2,hrow,hone,hxs⟩:=HK.o k hk2;have hc':=(hb'.cell (p:=⟨b,_,none⟩) hb).trans hcell;have hbr:b<wr.heap.size:=Nat.lt_of_lt_of_le hb hb'.size;have hsz:=hb'.size;have HS1:=lH hs1;have HXK:=lH hxs;have hle:S k+n≤2000000:=by omega
     have hrow':=hrow.below hb';have hown:=HO.o;clear hs1 hxs hs2 hcell hrow;go_wp2_with (at_builtin;refine zAd rfl _ _ 37 rfl w.heap.size 62 i0 _ 11 136 Tryz.underlying37 hi hz0 hz1 hz2 hzs (by decide) _ _ _ rfl hown _ _ _ rfl hrow' hone (by unfold maxLen;omega) (by omega) (by omega) ?_)
     intro v3 w3 hown3 hg3 hb3;have hB3:Bw w w3:=hb'.grown hg3 hsz (fun j hj=>(HO.o.lt j hj).1);rw [←HS1.o,←HXK.o] at hown3;have HO3:=lH hown3;clear hown3 hown;go_wp2;go_roundw
     case rel=>exact ⟨k+1,by omega,by go_num,HO3,hB3⟩
     case measure=>simp [intOf];omega
    ·have hd:decide ((k:Int)<2)=false:=decide_eq_false (by omega)
     obtain rfl:k=2:=by omega
     have HOF:=HO.o;rw [HS2.o,HX2'.o,HN.o,←List.length_append] at HOF;obtain ⟨av,cv,rfl⟩:=zAk HOF;have HF:=lH (Reads.ofRow (f:=declT) (l:=l1++l2) (X:=[]) (zAs HOF) (fun _ b _=>by simp) (HX.o.below hb'));clear HO HOF;go_wp2;go_ret;exact ⟨av,cv,rfl,HF.o,hb'⟩
def testsOf (e:OEdit):List OMod:=
 if e.kind=1∨e.kind=2 then [⟨e.pack,[],[]⟩] else if e.kind=3∨e.kind=4 then [⟨e.pack,[e.text],[]⟩] else (e.old++e.fresh).map fun d=>⟨e.pack,[],[compD e.kind d]⟩
theorem zFg (w:World) (B:Nat) (hB:B≤w.heap.size) (t:TypeId) (u0 u1 u2:Value):(w.alloc (.cells #[u0,u1,u2] t)).ownsRow B t 3 (.slice (some ⟨w.heap.size,0,none⟩) 1 1) 1 [u0,u1,u2]:=
 ⟨rfl,.inr ⟨w.heap.size,1,_,rfl,hB,World.alloc_heap_new _ _,Nat.le_refl _,by unfold maxLen;omega,rfl,rfl⟩⟩
theorem zHd (w:World) (B:Nat) (hB:B≤w.heap.size) (t:TypeId) (u0 u1 u2 u3 u4 u5 u6 u7 u8 u9 u10:Value):(w.alloc (.cells #[u0,u1,u2,u3,u4,u5,u6,u7,u8,u9,u10] t)).ownsRow B t 11 (.slice (some ⟨w.heap.size,0,none⟩) 1 1) 1 [u0,u1,u2,u3,u4,u5,u6,u7,u8,u9,u10]:=
 ⟨rfl,.inr ⟨w.heap.size,1,_,rfl,hB,World.alloc_heap_new _ _,Nat.le_refl _,by unfold maxLen;omega,rfl,rfl⟩⟩
theorem Reads.moreL {w:World} {d:Tree} {v:Value} (h:Reads w [] d v):∀{X:List Nat},(∀k∈X,w.heap.size≤k)→Reads w X d v
 | [],_=>h
 | k::X,hX=>(Reads.moreL h (X:=X) (fun j hj=>hX j (List.mem_cons_of_mem _ hj))).more (hX k List.mem_cons_self)
theorem zKg (w:World) (B:Nat) (X:List Nat) (hX:B∉X) (h:w.heap[B]?=some (.cells #[.string aName] 9 (0,0))):Reads w X (strsT [aName]) (.slice (some ⟨B,0,none⟩) 1 1):=
 zAg.2 ⟨(zAg.1 (zMi w B h)).1,fun _ b hb=>by simp [Value.ownBlock] at hb;subst hb;exact hX⟩
theorem zYj {w:World} {X:List Nat} {m:OMod} {au:Option Addr} {cu:Nat} {ad:Option Addr} {cd:Nat} (h1:Reads w X (strsT m.uses) (.slice au m.uses.length cu)) (h2:Reads w X (declsT m.decls) (.slice ad m.decls.length cd)) :
  ReadsL w X (modT m) [.string m.label,.slice au m.uses.length cu,.slice ad m.decls.length cd]:=ReadsL.cons (Reads.leaf' _ _ _) (ReadsL.cons h1 (ReadsL.cons h2 (ReadsL.nil _ _)))
theorem zBz {w:World} {X:List Nat} {l:List OMod} {a:Option Addr} {cap:Nat} (h:Reads w X (modsT l) (.slice a l.length cap)) {i:Nat} {m:OMod} (hi:l[i]?=some m) :
    ∃(b o:Nat) (au:Option Addr) (cu:Nat) (ad:Option Addr) (cd:Nat),a=some ⟨b,o,none⟩∧b<w.heap.size∧w.cell? ⟨b,o+i * 3,none⟩=some (.string m.label)∧w.cell? ⟨b,o+i * 3+1,none⟩=some (.slice au m.uses.length cu)∧w.cell? ⟨b,o+i * 3+2,none⟩=some (.slice ad m.decls.length cd) ∧
      m.uses.length≤cu∧cu≤9223372036854775807∧Hid (Reads w X (strsT m.uses) (.slice au m.uses.length cu))∧m.decls.length≤cd∧cd≤9223372036854775807∧Hid (Reads w X (declsT m.decls) (.slice ad m.decls.length cd)):=by
  obtain ⟨b,o,rfl,hb,hc⟩:=Reads.elem (size:=3) (f:=modT) (fun _=>rfl) h hi
  obtain ⟨u0,e0,d0⟩:=hc 0 _ rfl
  obtain ⟨u1,e1,d1⟩:=hc 1 _ rfl
  obtain ⟨u2,e2,d2⟩:=hc 2 _ rfl
  rw [Reads.leafv d0] at e0
  obtain ⟨au,cu,rfl,hu1,hu2⟩:=zNn d1
  obtain ⟨ad,cd,rfl,hd1,hd2⟩:=zCi d2
  exact ⟨b,o,au,cu,ad,cd,rfl,hb,e0,e1,e2,hu1,hu2,d1,hd1,hd2,d2⟩
theorem zDv {W:World} {m:OMod} {au:Option Addr} {cu:Nat} {ad:Option Addr} {cd:Nat} (h1:Reads W [] (strsT m.uses) (.slice au m.uses.length cu)) (h2:Reads W [] (declsT m.decls) (.slice ad m.decls.length cd)) :
  Reads (W.alloc (.cells (mA m au cu ad cd) 52)) [] (modsT [m]) (.slice (some ⟨W.heap.size,0,none⟩) 1 1):=by
 refine Reads.ofRow (l:=[m]) (zAs (zFg W W.heap.size (Nat.le_refl _) 52 _ _ _)) (fun _ b _=>by simp) ?_;rw [List.flatMap_cons,List.flatMap_nil,List.append_nil];exact zYj (h1.below (zAa _ _)) (h2.below (zAa _ _))
theorem zBw (w:World):Reads w [] (declsT []) (.slice none 0 0):=Reads.nilRow _ _ _ _
theorem yDt:(Tryz.prog.info? 52).map (fun i=>(i.zero.map (fun z=>z.cells.size),i.size,i.bytes))=some (some 3,3,64):=by kernel_rfl
theorem zFh (w:World) (s:ByteArray):Reads (w.alloc (.cells #[.string s] 9)) [] (strsT [s]) (.slice (some ⟨w.heap.size,0,none⟩) 1 1):=
 zAg.2 ⟨zAi (B:=w.heap.size) (l:=[s]) (zDf w w.heap.size (Nat.le_refl _) (.string s) 9),fun _ b _=>by simp⟩
theorem zYk (e:OEdit) (ao:Option Addr) (co:Nat) (af:Option Addr) (cf:Nat) (w:World) (he:EditIn w e ao co af cf) (hkM:e.kind≤9) (hl1:e.old.length≤1000000) (hl2:e.fresh.length≤1000000) :
  Calls Tryz.prog 56 #[editV e ao co af cf] w fun r w'=>∃a c,r=.returned (.slice a (testsOf e).length c)∧Reads w' [] (modsT (testsOf e)) (.slice a (testsOf e).length c)∧Bw w w':=by
 have HI:=lH he;clear he;have hp:testsOf e=if e.kind=1∨e.kind=2 then [⟨e.pack,[],[]⟩] else if e.kind=3∨e.kind=4 then [⟨e.pack,[e.text],[]⟩] else (e.old++e.fresh).map fun d=>⟨e.pack,[],[compD e.kind d]⟩:=rfl;unfold editV
 by_cases e1:e.kind=1
 ·skip
  have k1:(e.kind==1)=true:=by rw [e1];rfl
  rw [if_pos (by omega)] at hp;have HP:=lH hp;clear hkM hp e1;generalize testsOf e=T at *
  go_enter Tryz.func56,Tryz.ntmps56
  go_wp2;go_ret;exact ⟨some ⟨w.heap.size+1,0,none⟩,1,by rw [HP.o];rfl,by rw [HP.o];exact (by have q:=zDv (W:=w.alloc (.cells #[.int .i64 e.kind,.string e.pack,.string e.text,.slice ao e.old.length co,.slice af e.fresh.length cf] 39)) (m:=⟨e.pack,[],[]⟩) (zCm _) (zBw _);rwa [World.size_alloc] at q),zA (zAa _ _) (zAa _ _)⟩
 by_cases e2:e.kind=2
 ·skip
  have k1:(e.kind==1)=false:=beq_eq_false_iff_ne.2 (by omega);have k2:(e.kind==2)=true:=by rw [e2];rfl
  rw [if_pos (by omega)] at hp;have HP:=lH hp;clear hkM hp e1 e2;generalize testsOf e=T at *
  go_enter Tryz.func56,Tryz.ntmps56
  go_wp2;go_ret;exact ⟨some ⟨w.heap.size+1,0,none⟩,1,by rw [HP.o];rfl,by rw [HP.o];exact (by have q:=zDv (W:=w.alloc (.cells #[.int .i64 e.kind,.string e.pack,.string e.text,.slice ao e.old.length co,.slice af e.fresh.length cf] 39)) (m:=⟨e.pack,[],[]⟩) (zCm _) (zBw _);rwa [World.size_alloc] at q),zA (zAa _ _) (zAa _ _)⟩
 by_cases e3:e.kind=3
 ·skip
  have k1:(e.kind==1)=false:=beq_eq_false_iff_ne.2 (by omega);have k2:(e.kind==2)=false:=beq_eq_false_iff_ne.2 (by omega);have k3:(e.kind==3)=true:=by rw [e3];rfl
  rw [if_neg (by omega),if_pos (by omega)] at hp;have HP:=lH hp;clear hkM hp e1 e2 e3;generalize testsOf e=T at *
  go_enter Tryz.func56,Tryz.ntmps56
  go_wp2;go_ret;exact ⟨some ⟨w.heap.size+1+1,0,none⟩,1,by rw [HP.o];rfl,by rw [HP.o];exact (by have q:=zDv (m:=⟨e.pack,[e.text],[]⟩) (zFh (w.alloc (.cells #[.int .i64 e.kind,.string e.pack,.string e.text,.slice ao e.old.length co,.slice af e.fresh.length cf] 39)) e.text) (zBw _);simp only [World.size_alloc] at q;exact q),zA (zA (zAa _ _) (zAa _ _)) (zAa _ _)⟩
 by_cases e4:e.kind=4
 ·skip
  have k1:(e.kind==1)=false:=beq_eq_false_iff_ne.2 (by omega);have k2:(e.kind==2)=false:=beq_eq_false_iff_ne.2 (by omega);have k3:(e.kind==3)=false:=beq_eq_false_iff_ne.2 (by omega);have k4:(e.kind==4)=true:=by rw [e4];rfl
  rw [if_neg (by omega),if_pos (by omega)] at hp;have HP:=lH hp;clear hkM hp e1 e2 e3 e4;generalize testsOf e=T at *
  go_enter Tryz.func56,Tryz.ntmps56
  go_wp2;go_ret;exact ⟨some ⟨w.heap.size+1+1,0,none⟩,1,by rw [HP.o];rfl,by rw [HP.o];exact (by have q:=zDv (m:=⟨e.pack,[e.text],[]⟩) (zFh (w.alloc (.cells #[.int .i64 e.kind,.string e.pack,.string e.text,.slice ao e.old.length co,.slice af e.fresh.length cf] 39)) e.text) (zBw _);simp only [World.size_alloc] at q;exact q),zA (zA (zAa _ _) (zAa _ _)) (zAa _ _)⟩
 rw [if_neg (by omega),if_neg (by omega)] at hp;have k1:(e.kind==1)=false:=beq_eq_false_iff_ne.2 e1;have k2:(e.kind==2)=false:=beq_eq_false_iff_ne.2 e2;have k3:(e.kind==3)=false:=beq_eq_false_iff_ne.2 e3;have k4:(e.kind==4)=false:=beq_eq_false_iff_ne.2 e4;have HP:=lH hp;have hkL:1≤e.kind→5≤e.kind:=by omega
 clear hkL;clear hp e1 e2 e3 e4;generalize testsOf e=T at *;obtain ⟨i0,z,hi',hz0,hzs,hz1,hz2⟩:=zBh yDt;have hA1:=zAa w (.cells #[.int .i64 e.kind,.string e.pack,.string e.text,.slice ao e.old.length co,.slice af e.fresh.length cf] 39);have HB1:=lH (CBox.new w 39 #[.int .i64 e.kind,.string e.pack,.string e.text,.slice ao e.old.length co,.slice af e.fresh.length cf]);generalize hW1:w.alloc (.cells #[.int .i64 e.kind,.string e.pack,.string e.text,.slice ao e.old.length co,.slice af e.fresh.length cf] 39)=W1 at *
 have hA2:=zAa W1 (.cells #[.slice ao e.old.length co,.slice af e.fresh.length cf] 37);have HBP:=lH (CBox.new W1 37 #[.slice ao e.old.length co,.slice af e.fresh.length cf]);have HIC:=lH (zSc e.old e.fresh ao af co cf W1.heap.size _ ((HI.o.below (zA hA1 hA2)).old) ((HI.o.below (zA hA1 hA2)).fresh) HBP.o.lt (HBP.o.cell (i:=0) rfl) (HBP.o.cell (i:=1) rfl) hl1 hl2);have hs1:W1.heap.size=w.heap.size+1:=by rw [←hW1,World.size_alloc]
 rw [hs1] at HIC;have HS1:=lH hs1;have HW1:=lH hW1;clear HBP hs1 hW1
 go_enter Tryz.func56,Tryz.ntmps56
 go_wp2_with (fail)
 rw [HW1.o];refine HIC.o.mono ?_;rintro r w2 ⟨la,lc,rfl,HLr,hb2⟩;have HL:=lH HLr;have hB12:=zA hA2 hb2;have hB2:=zA hA1 hB12;have HBX:=lH (HB1.o.below hB12);have hLl:(e.old++e.fresh).length≤2000000:=by rw [List.length_append];omega
 generalize e.old++e.fresh=L at *;clear HLr HB1 HIC hA1 hA2 HW1 hb2 HS1;have hPlt:=HBX.o.lt;go_wp2
 go_loopw [3,32] (fun mv iv wr=>∃k:Nat,k≤L.length∧iv=.int .i64 k∧Hid (OwnT wr [] w2.heap.size 52 3 modT mv (T.take k))∧Bw w2 wr) (fun _ iv _=>L.length - (intOf iv).toNat)
 case atStart=>exact ⟨0,Nat.zero_le _,rfl,by rw [List.take_zero];exact OwnT.nil _ _ _ _ _ _,zAl _⟩
 case round=>
  obtain ⟨k,hkl,rfl,HO,hb⟩:=hrel
  by_cases hi:k<L.length
  ·have hd:decide ((k:Int)<(L.length:Int))=true:=decide_eq_true (by omega)
   have hir:(k:Int)<(L.length:Int):=by omega
   obtain ⟨d,hdi⟩:∃d,L[k]?=some d:=⟨_,List.getElem?_eq_getElem hi⟩;obtain ⟨b,o,an,cn,sa,cs,rfl,hbl,hcell,hn1,hn2,hsn,hs1,hs2,hsr⟩:=zAv HL.o hdi
   have HTK:Hid (T.take (k+1)=T.take k++[⟨e.pack,[],[compD e.kind d]⟩]):=by
    show _=_
    rw [HP.o,List.take_add_one,List.getElem?_map,hdi];rfl
   obtain ⟨xs,hown,hrd⟩:=HO.o;obtain ⟨ma,mc,rfl⟩:=zAk hown
   have HTL:Hid ((T.take k).length=k):=by
    show _=_
    rw [List.length_take,HP.o,List.length_map];omega
   rw [HTL.o] at hown hrd;have hbr:b<wr.heap.size:=Nat.lt_of_lt_of_le hbl hb.size;have hpr:w.heap.size<wr.heap.size:=Nat.lt_of_lt_of_le hPlt hb.size;have x0:=(hb.cell (p:=⟨b,_,none⟩) hbl).trans (hcell 0 _ rfl);have x1:=(hb.cell (p:=⟨b,_,none⟩) hbl).trans (hcell 1 _ rfl);have x2:=(hb.cell (p:=⟨b,_,none⟩) hbl).trans (hcell 2 _ rfl);have x3:=(hb.cell (p:=⟨b,_,none⟩) hbl).trans (hcell 3 _ rfl);have x4:=(hb.cell (p:=⟨b,_,none⟩) hbl).trans (hcell 4 _ rfl);have x5:=(hb.cell (p:=⟨b,_,none⟩) hbl).trans (hcell 5 _ rfl)
   have x6:=(hb.cell (p:=⟨b,_,none⟩) hbl).trans (hcell 6 _ rfl);have x7:=(hb.cell (p:=⟨b,_,none⟩) hbl).trans (hcell 7 _ rfl);have x8:=(hb.cell (p:=⟨b,_,none⟩) hbl).trans (hcell 8 _ rfl);have x9:=(hb.cell (p:=⟨b,_,none⟩) hbl).trans (hcell 9 _ rfl);have x10:=(hb.cell (p:=⟨b,_,none⟩) hbl).trans (hcell 10 _ rfl);rw [Nat.add_zero] at x0;have p0:=(HBX.o.below hb).cell (i:=0) (v:=.int .i64 e.kind) rfl;have p1:=(HBX.o.below hb).cell (i:=1) (v:=.string e.pack) rfl;rw [HTL.o];clear hcell;unfold declL at *;have HOW:=lH hown
   have HRD:=lH hrd
   have HNB:Hid (∀j∈(Value.slice ma k mc).ownBlock.toList++[],w2.heap.size≤j∧j<wr.heap.size):=fun j hj=>by
    rw [List.append_nil] at hj
    have hj':(Value.slice ma k mc).ownBlock=some j:=by cases h:(Value.slice ma k mc).ownBlock with|none=>rw [h] at hj;simp at hj|some x=>rw [h] at hj;simp at hj;rw [hj]
    exact ⟨zLw HOW.o hj',(HOW.o.lt j hj').2⟩
   clear hown hrd HO HI;generalize hX:(Value.slice ma k mc).ownBlock.toList++[]=X at *;have HX:=lH hX;clear hX;have HN0:=lH (Reads.moreL (X:=X) hsn.out (fun j hj=>(HNB.o j hj).1));have HS0:=lH (Reads.moreL (X:=X) hsr.out (fun j hj=>(HNB.o j hj).1));clear hsn hsr
   by_cases hk7:e.kind=7
   ·skip
    have kk7:(e.kind==7)=true:=by rw [hk7];rfl
    have kk8:(e.kind==8)=false:=beq_eq_false_iff_ne.2 (by omega);have kk9:(e.kind==9)=false:=beq_eq_false_iff_ne.2 (by omega);have hk8:¬e.kind=8:=by omega
    have hk9:¬e.kind=9:=by omega
    have HC:Hid (compD e.kind d=⟨d.id,1,d.pub,d.names,d.doubt,nilX⟩):=by show _=_;unfold compD;rw [if_pos (by omega),if_neg (by omega),if_pos (by omega)]
    clear hk7 hk8 hk9 hkM;have hC0:Bw wr (wr.alloc (.cells #[.int .i64 d.id,.int .i64 1,.bool d.pub,.slice an d.names.length cn,.bool d.doubt,.int .i64 11,.string ⟨#[]⟩,.string ⟨#[]⟩,.int .i64 0,.int .i64 0,.slice none 0 0] 62)):=zAa _ _;go_upto_region 18 with (fail)
    skip
    have hown2:=lH ((zAq HOW.o hC0).alloc (.cells #[.int .i64 d.id,.int .i64 1,.bool d.pub,.slice an d.names.length cn,.bool d.doubt,.int .i64 11,.string ⟨#[]⟩,.string ⟨#[]⟩,.int .i64 0,.int .i64 0,.slice none 0 0] 62));have hC1:=zA hC0 (zAa _ (.cells #[.int .i64 d.id,.int .i64 1,.bool d.pub,.slice an d.names.length cn,.bool d.doubt,.int .i64 11,.string ⟨#[]⟩,.string ⟨#[]⟩,.int .i64 0,.int .i64 0,.slice none 0 0] 62))
    generalize hWD:((wr.alloc (.cells #[.int .i64 d.id,.int .i64 1,.bool d.pub,.slice an d.names.length cn,.bool d.doubt,.int .i64 11,.string ⟨#[]⟩,.string ⟨#[]⟩,.int .i64 0,.int .i64 0,.slice none 0 0] 62)).alloc (.cells #[.int .i64 d.id,.int .i64 1,.bool d.pub,.slice an d.names.length cn,.bool d.doubt,.int .i64 11,.string ⟨#[]⟩,.string ⟨#[]⟩,.int .i64 0,.int .i64 0,.slice none 0 0] 62))=WD at *;have hsz:WD.heap.size=wr.heap.size+1+1:=by rw [←hWD];simp only [World.size_alloc]
    have HD1:Hid (WD.ownsRow wr.heap.size 62 11 (.slice (some ⟨wr.heap.size+1,0,none⟩) 1 1) 1 [.int .i64 d.id,.int .i64 1,.bool d.pub,.slice an d.names.length cn,.bool d.doubt,.int .i64 11,.string ⟨#[]⟩,.string ⟨#[]⟩,.int .i64 0,.int .i64 0,.slice none 0 0]):=by show World.ownsRow _ _ _ _ _ _ _;rw [←hWD];have q:=zHd (wr.alloc (.cells #[.int .i64 d.id,.int .i64 1,.bool d.pub,.slice an d.names.length cn,.bool d.doubt,.int .i64 11,.string ⟨#[]⟩,.string ⟨#[]⟩,.int .i64 0,.int .i64 0,.slice none 0 0] 62)) wr.heap.size (by simp only [World.size_alloc];omega) 62 (.int .i64 d.id) (.int .i64 1) (.bool d.pub) (.slice an d.names.length cn) (.bool d.doubt) (.int .i64 11) (.string ⟨#[]⟩) (.string ⟨#[]⟩) (.int .i64 0) (.int .i64 0) (.slice none 0 0);simpa only [World.size_alloc] using q
    have HWE:=lH hWD;have hb3:=hb.trans (hC1.mono hb.size)
    have HRL:Hid (ReadsL WD X (modT ⟨e.pack,[],[compD e.kind d]⟩) [.string e.pack,.slice none 0 0,.slice (some ⟨wr.heap.size+1,0,none⟩) 1 1]):=by
     refine ReadsL.cons (Reads.leaf' _ _ _) (ReadsL.cons (Reads.nilRow _ _ _ _) (ReadsL.cons ?_ (ReadsL.nil _ _)));refine Reads.ofRow (l:=[compD e.kind d]) (zAs HD1.o) (fun _ q hq=>?_) ?_
     ·simp [Value.ownBlock] at hq;subst hq;exact fun h=>by have:=(HNB.o _ h).2;omega
     ·rw [List.flatMap_cons,List.flatMap_nil,List.append_nil,HC.o]
      exact zBr (d:=_) (HN0.o.below (hb.trans (hC1.mono hb.size))) (Reads.nilRow _ _ _ _)
    have HOM:=lH (zAs (zFg WD WD.heap.size (Nat.le_refl _) 52 (.string e.pack) (.slice none 0 0) (.slice (some ⟨wr.heap.size+1,0,none⟩) 1 1)));have hAM:=zAa WD (.cells #[.string e.pack,.slice none 0 0,.slice (some ⟨wr.heap.size+1,0,none⟩) 1 1] 52);have HOW3:=lH (zAq hown2.out hAM);have hszw:=hb3.size;have hszm:=hAM.size;clear hWD;rw [hsz] at HOM
    go_wp2_with (first|rw [HWE.o]|skip;at_builtin;refine zAd rfl _ _ 22 rfl w2.heap.size 52 i0 _ 3 64 Tryz.underlying22 hi' hz0 hz1 hz2 hzs (by decide) _ _ _ rfl HOW3.o _ _ _ rfl HOM.o (by intro u hu;simp at hu;rcases hu with rfl|rfl|rfl<;>rfl) (by unfold maxLen;omega) (by omega) (by omega) ?_)
    intro v3 w3 hown3 hg3 hb3x;have HG:=lH (OwnT.grown (α:=OMod) (f:=modT) (l:=T.take k) (a:=⟨e.pack,[],[compD e.kind d]⟩) (X:=[]) (v:=.slice ma k mc) (by rw [HTL.o];exact HOW3.o) (by rw [HX.o];exact HRD.o.below (zA hC1 hAM)) (by rw [HX.o];exact HRL.o.below hAM) (by rw [HTL.o];exact hown3) hg3 (by rw [World.size_alloc,hsz];exact hb3x));have hB3:Bw w2 w3:=(hb3.trans (hAM.mono hb3.size)).grown hg3 (by omega) (fun j hj=>(HOW3.o.lt j hj).1);go_wp2;go_roundw
    case rel=>exact ⟨k+1,by omega,by go_num,by rw [HTK.o];exact HG.o,hB3⟩
    case measure=>simp [intOf];omega
   by_cases hk8:e.kind=8
   ·skip
    have kk7:(e.kind==7)=false:=beq_eq_false_iff_ne.2 (by omega);have kk8:(e.kind==8)=true:=by rw [hk8];rfl
    have kk9:(e.kind==9)=false:=beq_eq_false_iff_ne.2 (by omega);have hk9:¬e.kind=9:=by omega
    have HC:Hid (compD e.kind d=⟨d.id,1,d.pub,[aName],d.doubt,d.body⟩):=by show _=_;unfold compD;rw [if_pos (by omega),if_pos (by omega),if_neg (by omega)]
    clear hk7 hk8 hk9 hkM;have hC0:Bw wr ((wr.alloc (.cells #[.int .i64 d.id,.int .i64 1,.bool d.pub,.slice (some ⟨wr.heap.size+1,0,none⟩) 1 1,.bool d.doubt,.int .i64 d.body.kind,.string d.body.name,.string d.body.more,.int .i64 d.body.num,.int .i64 d.body.den,.slice sa d.body.subs.length cs] 62)).alloc (.cells #[.string ⟨#[97]⟩] 9)):=zA (zAa _ _) (zAa _ _);go_upto_region 18 with (fail)
    skip
    have hown2:=lH ((zAq HOW.o hC0).alloc (.cells #[.int .i64 d.id,.int .i64 1,.bool d.pub,.slice (some ⟨wr.heap.size+1,0,none⟩) 1 1,.bool d.doubt,.int .i64 d.body.kind,.string d.body.name,.string d.body.more,.int .i64 d.body.num,.int .i64 d.body.den,.slice sa d.body.subs.length cs] 62))
    have hC1:=zA hC0 (zAa _ (.cells #[.int .i64 d.id,.int .i64 1,.bool d.pub,.slice (some ⟨wr.heap.size+1,0,none⟩) 1 1,.bool d.doubt,.int .i64 d.body.kind,.string d.body.name,.string d.body.more,.int .i64 d.body.num,.int .i64 d.body.den,.slice sa d.body.subs.length cs] 62))
    generalize hWD:(((wr.alloc (.cells #[.int .i64 d.id,.int .i64 1,.bool d.pub,.slice (some ⟨wr.heap.size+1,0,none⟩) 1 1,.bool d.doubt,.int .i64 d.body.kind,.string d.body.name,.string d.body.more,.int .i64 d.body.num,.int .i64 d.body.den,.slice sa d.body.subs.length cs] 62)).alloc (.cells #[.string ⟨#[97]⟩] 9)).alloc (.cells #[.int .i64 d.id,.int .i64 1,.bool d.pub,.slice (some ⟨wr.heap.size+1,0,none⟩) 1 1,.bool d.doubt,.int .i64 d.body.kind,.string d.body.name,.string d.body.more,.int .i64 d.body.num,.int .i64 d.body.den,.slice sa d.body.subs.length cs] 62))=WD at *
    have hsz:WD.heap.size=wr.heap.size+2+1:=by rw [←hWD];simp only [World.size_alloc]
    have HD1:Hid (WD.ownsRow wr.heap.size 62 11 (.slice (some ⟨wr.heap.size+1+1,0,none⟩) 1 1) 1 [.int .i64 d.id,.int .i64 1,.bool d.pub,.slice (some ⟨wr.heap.size+1,0,none⟩) 1 1,.bool d.doubt,.int .i64 d.body.kind,.string d.body.name,.string d.body.more,.int .i64 d.body.num,.int .i64 d.body.den,.slice sa d.body.subs.length cs]):=by show World.ownsRow _ _ _ _ _ _ _;rw [←hWD];have q:=zHd ((wr.alloc (.cells #[.int .i64 d.id,.int .i64 1,.bool d.pub,.slice (some ⟨wr.heap.size+1,0,none⟩) 1 1,.bool d.doubt,.int .i64 d.body.kind,.string d.body.name,.string d.body.more,.int .i64 d.body.num,.int .i64 d.body.den,.slice sa d.body.subs.length cs] 62)).alloc (.cells #[.string ⟨#[97]⟩] 9)) wr.heap.size (by simp only [World.size_alloc];omega) 62 (.int .i64 d.id) (.int .i64 1) (.bool d.pub) (.slice (some ⟨wr.heap.size+1,0,none⟩) 1 1) (.bool d.doubt) (.int .i64 d.body.kind) (.string d.body.name) (.string d.body.more) (.int .i64 d.body.num) (.int .i64 d.body.den) (.slice sa d.body.subs.length cs);simpa only [World.size_alloc] using q
    have HNM:Hid (WD.heap[wr.heap.size+1]?=some (.cells #[.string aName] 9 (0,0))):=by show _=_;rw [←hWD];have q:=World.alloc_heap_new (wr.alloc (.cells #[.int .i64 d.id,.int .i64 1,.bool d.pub,.slice (some ⟨wr.heap.size+1,0,none⟩) 1 1,.bool d.doubt,.int .i64 d.body.kind,.string d.body.name,.string d.body.more,.int .i64 d.body.num,.int .i64 d.body.den,.slice sa d.body.subs.length cs] 62)) (.cells #[.string ⟨#[97]⟩] 9);rw [World.size_alloc] at q;rw [(zAa _ _).block _ (by simp only [World.size_alloc];omega)];exact q
    have HWE:=lH hWD;have hb3:=hb.trans (hC1.mono hb.size)
    have HRL:Hid (ReadsL WD X (modT ⟨e.pack,[],[compD e.kind d]⟩) [.string e.pack,.slice none 0 0,.slice (some ⟨wr.heap.size+1+1,0,none⟩) 1 1]):=by
     refine ReadsL.cons (Reads.leaf' _ _ _) (ReadsL.cons (Reads.nilRow _ _ _ _) (ReadsL.cons ?_ (ReadsL.nil _ _)));refine Reads.ofRow (l:=[compD e.kind d]) (zAs HD1.o) (fun _ q hq=>?_) ?_
     ·simp [Value.ownBlock] at hq;subst hq;exact fun h=>by have:=(HNB.o _ h).2;omega
     ·rw [List.flatMap_cons,List.flatMap_nil,List.append_nil,HC.o]
      exact zBr (d:=_) (zKg WD (wr.heap.size+1) X (fun h=>by have:=(HNB.o _ h).2;omega) HNM.o) (HS0.o.below (hb.trans (hC1.mono hb.size)))
    have HOM:=lH (zAs (zFg WD WD.heap.size (Nat.le_refl _) 52 (.string e.pack) (.slice none 0 0) (.slice (some ⟨wr.heap.size+1+1,0,none⟩) 1 1)));have hAM:=zAa WD (.cells #[.string e.pack,.slice none 0 0,.slice (some ⟨wr.heap.size+1+1,0,none⟩) 1 1] 52);have HOW3:=lH (zAq hown2.out hAM);have hszw:=hb3.size;have hszm:=hAM.size;clear hWD;rw [hsz] at HOM
    go_wp2_with (first|rw [HWE.o]|skip;at_builtin;refine zAd rfl _ _ 22 rfl w2.heap.size 52 i0 _ 3 64 Tryz.underlying22 hi' hz0 hz1 hz2 hzs (by decide) _ _ _ rfl HOW3.o _ _ _ rfl HOM.o (by intro u hu;simp at hu;rcases hu with rfl|rfl|rfl<;>rfl) (by unfold maxLen;omega) (by omega) (by omega) ?_)
    intro v3 w3 hown3 hg3 hb3x;have HG:=lH (OwnT.grown (α:=OMod) (f:=modT) (l:=T.take k) (a:=⟨e.pack,[],[compD e.kind d]⟩) (X:=[]) (v:=.slice ma k mc) (by rw [HTL.o];exact HOW3.o) (by rw [HX.o];exact HRD.o.below (zA hC1 hAM)) (by rw [HX.o];exact HRL.o.below hAM) (by rw [HTL.o];exact hown3) hg3 (by rw [World.size_alloc,hsz];exact hb3x));have hB3:Bw w2 w3:=(hb3.trans (hAM.mono hb3.size)).grown hg3 (by omega) (fun j hj=>(HOW3.o.lt j hj).1);go_wp2;go_roundw
    case rel=>exact ⟨k+1,by omega,by go_num,by rw [HTK.o];exact HG.o,hB3⟩
    case measure=>simp [intOf];omega
   by_cases hk9:e.kind=9
   ·skip
    have kk7:(e.kind==7)=false:=beq_eq_false_iff_ne.2 (by omega);have kk8:(e.kind==8)=false:=beq_eq_false_iff_ne.2 (by omega);have kk9:(e.kind==9)=true:=by rw [hk9];rfl
    have HC:Hid (compD e.kind d=⟨d.id,d.kind,d.pub,[aName],d.doubt,nilX⟩):=by show _=_;unfold compD;rw [if_neg (by omega),if_pos (by omega),if_pos (by omega)]
    clear hk7 hk8 hk9 hkM;have hC0:Bw wr ((wr.alloc (.cells #[.int .i64 d.id,.int .i64 d.kind,.bool d.pub,.slice (some ⟨wr.heap.size+1,0,none⟩) 1 1,.bool d.doubt,.int .i64 11,.string ⟨#[]⟩,.string ⟨#[]⟩,.int .i64 0,.int .i64 0,.slice none 0 0] 62)).alloc (.cells #[.string ⟨#[97]⟩] 9)):=zA (zAa _ _) (zAa _ _);go_upto_region 18 with (fail)
    skip
    have hown2:=lH ((zAq HOW.o hC0).alloc (.cells #[.int .i64 d.id,.int .i64 d.kind,.bool d.pub,.slice (some ⟨wr.heap.size+1,0,none⟩) 1 1,.bool d.doubt,.int .i64 11,.string ⟨#[]⟩,.string ⟨#[]⟩,.int .i64 0,.int .i64 0,.slice none 0 0] 62));have hC1:=zA hC0 (zAa _ (.cells #[.int .i64 d.id,.int .i64 d.kind,.bool d.pub,.slice (some ⟨wr.heap.size+1,0,none⟩) 1 1,.bool d.doubt,.int .i64 11,.string ⟨#[]⟩,.string ⟨#[]⟩,.int .i64 0,.int .i64 0,.slice none 0 0] 62))
    generalize hWD:(((wr.alloc (.cells #[.int .i64 d.id,.int .i64 d.kind,.bool d.pub,.slice (some ⟨wr.heap.size+1,0,none⟩) 1 1,.bool d.doubt,.int .i64 11,.string ⟨#[]⟩,.string ⟨#[]⟩,.int .i64 0,.int .i64 0,.slice none 0 0] 62)).alloc (.cells #[.string ⟨#[97]⟩] 9)).alloc (.cells #[.int .i64 d.id,.int .i64 d.kind,.bool d.pub,.slice (some ⟨wr.heap.size+1,0,none⟩) 1 1,.bool d.doubt,.int .i64 11,.string ⟨#[]⟩,.string ⟨#[]⟩,.int .i64 0,.int .i64 0,.slice none 0 0] 62))=WD at *
    have hsz:WD.heap.size=wr.heap.size+2+1:=by rw [←hWD];simp only [World.size_alloc]
    have HD1:Hid (WD.ownsRow wr.heap.size 62 11 (.slice (some ⟨wr.heap.size+1+1,0,none⟩) 1 1) 1 [.int .i64 d.id,.int .i64 d.kind,.bool d.pub,.slice (some ⟨wr.heap.size+1,0,none⟩) 1 1,.bool d.doubt,.int .i64 11,.string ⟨#[]⟩,.string ⟨#[]⟩,.int .i64 0,.int .i64 0,.slice none 0 0]):=by show World.ownsRow _ _ _ _ _ _ _;rw [←hWD];have q:=zHd ((wr.alloc (.cells #[.int .i64 d.id,.int .i64 d.kind,.bool d.pub,.slice (some ⟨wr.heap.size+1,0,none⟩) 1 1,.bool d.doubt,.int .i64 11,.string ⟨#[]⟩,.string ⟨#[]⟩,.int .i64 0,.int .i64 0,.slice none 0 0] 62)).alloc (.cells #[.string ⟨#[97]⟩] 9)) wr.heap.size (by simp only [World.size_alloc];omega) 62 (.int .i64 d.id) (.int .i64 d.kind) (.bool d.pub) (.slice (some ⟨wr.heap.size+1,0,none⟩) 1 1) (.bool d.doubt) (.int .i64 11) (.string ⟨#[]⟩) (.string ⟨#[]⟩) (.int .i64 0) (.int .i64 0) (.slice none 0 0);simpa only [World.size_alloc] using q
    have HNM:Hid (WD.heap[wr.heap.size+1]?=some (.cells #[.string aName] 9 (0,0))):=by show _=_;rw [←hWD];have q:=World.alloc_heap_new (wr.alloc (.cells #[.int .i64 d.id,.int .i64 d.kind,.bool d.pub,.slice (some ⟨wr.heap.size+1,0,none⟩) 1 1,.bool d.doubt,.int .i64 11,.string ⟨#[]⟩,.string ⟨#[]⟩,.int .i64 0,.int .i64 0,.slice none 0 0] 62)) (.cells #[.string ⟨#[97]⟩] 9);rw [World.size_alloc] at q;rw [(zAa _ _).block _ (by simp only [World.size_alloc];omega)];exact q
    have HWE:=lH hWD;have hb3:=hb.trans (hC1.mono hb.size)
    have HRL:Hid (ReadsL WD X (modT ⟨e.pack,[],[compD e.kind d]⟩) [.string e.pack,.slice none 0 0,.slice (some ⟨wr.heap.size+1+1,0,none⟩) 1 1]):=by
     refine ReadsL.cons (Reads.leaf' _ _ _) (ReadsL.cons (Reads.nilRow _ _ _ _) (ReadsL.cons ?_ (ReadsL.nil _ _)));refine Reads.ofRow (l:=[compD e.kind d]) (zAs HD1.o) (fun _ q hq=>?_) ?_
     ·simp [Value.ownBlock] at hq;subst hq;exact fun h=>by have:=(HNB.o _ h).2;omega
     ·rw [List.flatMap_cons,List.flatMap_nil,List.append_nil,HC.o]
      exact zBr (d:=_) (zKg WD (wr.heap.size+1) X (fun h=>by have:=(HNB.o _ h).2;omega) HNM.o) (Reads.nilRow _ _ _ _)
    have HOM:=lH (zAs (zFg WD WD.heap.size (Nat.le_refl _) 52 (.string e.pack) (.slice none 0 0) (.slice (some ⟨wr.heap.size+1+1,0,none⟩) 1 1)));have hAM:=zAa WD (.cells #[.string e.pack,.slice none 0 0,.slice (some ⟨wr.heap.size+1+1,0,none⟩) 1 1] 52);have HOW3:=lH (zAq hown2.out hAM);have hszw:=hb3.size;have hszm:=hAM.size;clear hWD;rw [hsz] at HOM
    go_wp2_with (first|rw [HWE.o]|skip;at_builtin;refine zAd rfl _ _ 22 rfl w2.heap.size 52 i0 _ 3 64 Tryz.underlying22 hi' hz0 hz1 hz2 hzs (by decide) _ _ _ rfl HOW3.o _ _ _ rfl HOM.o (by intro u hu;simp at hu;rcases hu with rfl|rfl|rfl<;>rfl) (by unfold maxLen;omega) (by omega) (by omega) ?_)
    intro v3 w3 hown3 hg3 hb3x;have HG:=lH (OwnT.grown (α:=OMod) (f:=modT) (l:=T.take k) (a:=⟨e.pack,[],[compD e.kind d]⟩) (X:=[]) (v:=.slice ma k mc) (by rw [HTL.o];exact HOW3.o) (by rw [HX.o];exact HRD.o.below (zA hC1 hAM)) (by rw [HX.o];exact HRL.o.below hAM) (by rw [HTL.o];exact hown3) hg3 (by rw [World.size_alloc,hsz];exact hb3x));have hB3:Bw w2 w3:=(hb3.trans (hAM.mono hb3.size)).grown hg3 (by omega) (fun j hj=>(HOW3.o.lt j hj).1);go_wp2;go_roundw
    case rel=>exact ⟨k+1,by omega,by go_num,by rw [HTK.o];exact HG.o,hB3⟩
    case measure=>simp [intOf];omega
   have kk7:(e.kind==7)=false:=beq_eq_false_iff_ne.2 hk7;have kk8:(e.kind==8)=false:=beq_eq_false_iff_ne.2 hk8;have kk9:(e.kind==9)=false:=beq_eq_false_iff_ne.2 hk9;have HC:Hid (compD e.kind d=⟨d.id,d.kind,d.pub,d.names,d.doubt,d.body⟩):=by show _=_;unfold compD;rw [if_neg (by omega),if_neg (by omega),if_neg (by omega)]
   clear hk7 hk8 hk9 hkM;have hC0:Bw wr (wr.alloc (.cells (dA d an cn sa cs) 62)):=zAa _ _;go_upto_region 18 with (fail)
   skip
   have hown2:=lH ((zAq HOW.o hC0).alloc (.cells (dA d an cn sa cs) 62));have hC1:=zA hC0 (zAa _ (.cells (dA d an cn sa cs) 62));generalize hWD:((wr.alloc (.cells (dA d an cn sa cs) 62)).alloc (.cells (dA d an cn sa cs) 62))=WD at *;have hsz:WD.heap.size=wr.heap.size+1+1:=by rw [←hWD];simp only [World.size_alloc]
   have HD1:Hid (WD.ownsRow wr.heap.size 62 11 (.slice (some ⟨wr.heap.size+1,0,none⟩) 1 1) 1 [.int .i64 d.id,.int .i64 d.kind,.bool d.pub,.slice an d.names.length cn,.bool d.doubt,.int .i64 d.body.kind,.string d.body.name,.string d.body.more,.int .i64 d.body.num,.int .i64 d.body.den,.slice sa d.body.subs.length cs]):=by show World.ownsRow _ _ _ _ _ _ _;rw [←hWD];have q:=zHd (wr.alloc (.cells (dA d an cn sa cs) 62)) wr.heap.size (by simp only [World.size_alloc];omega) 62 (.int .i64 d.id) (.int .i64 d.kind) (.bool d.pub) (.slice an d.names.length cn) (.bool d.doubt) (.int .i64 d.body.kind) (.string d.body.name) (.string d.body.more) (.int .i64 d.body.num) (.int .i64 d.body.den) (.slice sa d.body.subs.length cs);simpa only [World.size_alloc] using q
   have HWE:=lH hWD;have hb3:=hb.trans (hC1.mono hb.size)
   have HRL:Hid (ReadsL WD X (modT ⟨e.pack,[],[compD e.kind d]⟩) [.string e.pack,.slice none 0 0,.slice (some ⟨wr.heap.size+1,0,none⟩) 1 1]):=by
    refine ReadsL.cons (Reads.leaf' _ _ _) (ReadsL.cons (Reads.nilRow _ _ _ _) (ReadsL.cons ?_ (ReadsL.nil _ _)));refine Reads.ofRow (l:=[compD e.kind d]) (zAs HD1.o) (fun _ q hq=>?_) ?_
    ·simp [Value.ownBlock] at hq;subst hq;exact fun h=>by have:=(HNB.o _ h).2;omega
    ·rw [List.flatMap_cons,List.flatMap_nil,List.append_nil,HC.o]
     exact zBr (d:=_) (HN0.o.below (hb.trans (hC1.mono hb.size))) (HS0.o.below (hb.trans (hC1.mono hb.size)))
   have HOM:=lH (zAs (zFg WD WD.heap.size (Nat.le_refl _) 52 (.string e.pack) (.slice none 0 0) (.slice (some ⟨wr.heap.size+1,0,none⟩) 1 1)));have hAM:=zAa WD (.cells #[.string e.pack,.slice none 0 0,.slice (some ⟨wr.heap.size+1,0,none⟩) 1 1] 52);have HOW3:=lH (zAq hown2.out hAM);have hszw:=hb3.size;have hszm:=hAM.size;clear hWD;rw [hsz] at HOM
   go_wp2_with (first|rw [HWE.o]|skip;at_builtin;refine zAd rfl _ _ 22 rfl w2.heap.size 52 i0 _ 3 64 Tryz.underlying22 hi' hz0 hz1 hz2 hzs (by decide) _ _ _ rfl HOW3.o _ _ _ rfl HOM.o (by intro u hu;simp at hu;rcases hu with rfl|rfl|rfl<;>rfl) (by unfold maxLen;omega) (by omega) (by omega) ?_)
   intro v3 w3 hown3 hg3 hb3x;have HG:=lH (OwnT.grown (α:=OMod) (f:=modT) (l:=T.take k) (a:=⟨e.pack,[],[compD e.kind d]⟩) (X:=[]) (v:=.slice ma k mc) (by rw [HTL.o];exact HOW3.o) (by rw [HX.o];exact HRD.o.below (zA hC1 hAM)) (by rw [HX.o];exact HRL.o.below hAM) (by rw [HTL.o];exact hown3) hg3 (by rw [World.size_alloc,hsz];exact hb3x));have hB3:Bw w2 w3:=(hb3.trans (hAM.mono hb3.size)).grown hg3 (by omega) (fun j hj=>(HOW3.o.lt j hj).1);go_wp2;go_roundw
   case rel=>exact ⟨k+1,by omega,by go_num,by rw [HTK.o];exact HG.o,hB3⟩
   case measure=>simp [intOf];omega
  ·have hd:decide ((k:Int)<(L.length:Int))=false:=decide_eq_false (by omega)
   obtain rfl:k=L.length:=by omega
   have HF:Hid (T.take L.length=T∧T.length=L.length):=by
    have h1:T.length=L.length:=by rw [HP.o,List.length_map]
    exact ⟨by rw [←h1,List.take_length],h1⟩
   rw [HF.o.1] at HO;obtain ⟨ma,mc,rfl,-,-⟩:=HO.o.val;clear HP;go_wp2;go_ret;exact ⟨ma,mc,rfl,HO.o.reads0,hB2.trans (hb.mono hB2.size)⟩
def mAt (l:List OMod) (i:Nat):OMod:=(l[i]?).getD ⟨⟨#[]⟩,[],[]⟩
theorem zF {l:List OMod} {k:Nat} {d:OMod} (h:l[k]?=some d):mAt l k=d:=by rw [mAt,h];rfl
def testErr (l:List OMod):Int:=nzFrom (fun i=>modErr (mAt l i)) l.length 0
def editErr (e:OEdit):Int:=if 1≤e.kind∧e.kind≤9 then (if fitsB e then testErr (testsOf e) else 1) else 9
theorem yBk:SmX 40000 nilX:=.mk (by decide) (by decide) ⟨by decide,by decide⟩ ⟨by decide,by decide⟩ ⟨by decide,by decide⟩ (fun y hy=>by cases hy)
theorem SmD.comp {d:ODecl} (h:SmD d) (k:Int):SmD (compD k d):=by
 refine ⟨fun s hs=>?_,?_,?_,?_⟩
 ·unfold compD at hs
  simp only at hs
  split at hs
  ·simp only [List.mem_singleton] at hs;subst hs;decide
  ·exact h.names s hs
 ·unfold compD
  simp only
  split
  ·decide
  ·exact h.len
 ·unfold compD
  simp only
  split
  ·exact yBk
  ·exact h.body
 ·unfold compD
  simp only
  split
  ·decide
  ·exact h.nodes
theorem zHe {e:OEdit} (h:SmE e):∀m∈testsOf e,SmM m:=by
 intro m hm;unfold testsOf at hm;split at hm
 ·simp only [List.mem_singleton] at hm;subst hm;exact ⟨h.pack,fun s hs=>by simp at hs,by simp,fun s hs=>by simp at hs,by simp⟩
 split at hm
 ·simp only [List.mem_singleton] at hm;subst hm;exact ⟨h.pack,fun s hs=>by simp only [List.mem_singleton] at hs;subst hs;exact h.text,by simp,fun s hs=>by simp at hs,by simp⟩
 ·obtain ⟨d,hd,rfl⟩:=List.mem_map.1 hm
  refine ⟨h.pack,fun s hs=>by simp at hs,by simp,fun s hs=>?_,by simp⟩;simp only [List.mem_singleton] at hs
  subst hs
  rcases List.mem_append.1 hd with hd|hd
  ·exact (h.old d hd).1.comp _
  ·exact (h.fresh d hd).1.comp _
theorem zSd {e:OEdit} (h:SmE e):(testsOf e).length≤2000000:=by
 have h1:=h.olen;have h2:=h.flen;unfold testsOf;split
 ·simp
 split
 ·simp
 ·rw [List.length_map,List.length_append];omega
theorem zMl (e:OEdit) (ao:Option Addr) (co:Nat) (af:Option Addr) (cf:Nat) (w:World) (he:EditIn w e ao co af cf) (hs:SmE e) :
  Calls Tryz.prog 21 #[editV e ao co af cf] w fun r w'=>r=.returned (.int .i64 (editErr e))∧Bw w w':=by
 have hA:=zAa w (.cells #[.int .i64 e.kind,.string e.pack,.string e.text,.slice ao e.old.length co,.slice af e.fresh.length cf] 39);have HB:=lH (CBox.new w 39 #[.int .i64 e.kind,.string e.pack,.string e.text,.slice ao e.old.length co,.slice af e.fresh.length cf]);have HF:=lH (yBi e ao co af cf _ (he.below hA) hs);have HT:=lH (fun w' (h':Bw w w') (hk:e.kind≤9)=>zYk e ao co af cf w' (he.below h') hk hs.olen hs.flen);have HSM:=lH (zHe hs);have hln:=zSd hs
 have hp:editErr e=if 1≤e.kind∧e.kind≤9 then (if fitsB e then testErr (testsOf e) else 1) else 9:=rfl;clear he hs;unfold editV at *
 by_cases h1:e.kind<1
 ·have q1:decide (e.kind<1)=true:=decide_eq_true h1
  rw [if_neg (by omega)] at hp;have HP:=lH hp;clear hp h1 HF HT HSM hln
  go_enter Tryz.func21,Tryz.ntmps21
  go_wp2;go_ret;exact ⟨zAc HP.o.symm,hA⟩
 have q1:decide (e.kind<1)=false:=decide_eq_false h1
 by_cases h9:9<e.kind
 ·have q2:decide (9<e.kind)=true:=decide_eq_true h9
  rw [if_neg (by omega)] at hp;have HP:=lH hp;clear hp h1 h9 HF HT HSM hln
  go_enter Tryz.func21,Tryz.ntmps21
  go_wp2;go_ret;exact ⟨zAc HP.o.symm,hA⟩
 have q2:decide (9<e.kind)=false:=decide_eq_false h9;rw [if_pos ⟨by omega,by omega⟩] at hp;have HP:=lH hp;have HT:=lH (fun w' h'=>HT.o w' h' (by omega));clear hp h1 h9;generalize fitsB e=fb at *
 go_enter Tryz.func21,Tryz.ntmps21
 go_wp2_with (fail)
 refine HF.o.mono ?_;rintro r w1 ⟨rfl,hb1⟩;have hB1:=zA hA hb1;have HB1:=lH (HB.o.below hb1);have m0:=HB1.o.cell (i:=0) (v:=.int .i64 e.kind) rfl;have m1:=HB1.o.cell (i:=1) (v:=.string e.pack) rfl;have m2:=HB1.o.cell (i:=2) (v:=.string e.text) rfl;have m3:=HB1.o.cell (i:=3) (v:=.slice ao e.old.length co) rfl;have m4:=HB1.o.cell (i:=4) (v:=.slice af e.fresh.length cf) rfl;have ml:=HB1.o.lt
 cases fb with
 | false=>
  clear HT HF HSM;go_wp2;go_ret;exact ⟨zAc (by rw [HP.o];rfl),hB1⟩
 | true=>
  have HE:Hid (editErr e=nzFrom (fun i=>modErr (mAt (testsOf e) i)) (testsOf e).length 0):=by show _=_;rw [HP.o,if_pos rfl];rfl
  clear HP HF HB HB1;go_wp2_with (fail)
  refine (HT.o _ hB1).mono ?_;rintro r w2 ⟨ta,tc,rfl,HRr,hb2⟩;have HR:=lH HRr;have hB2:=zA hB1 hb2;clear HRr HT hb2 m0 m1 m2 m3 m4 ml hb1 hB1 hA;generalize testsOf e=L at *;obtain ⟨T,hT⟩:∃T,editErr e=T:=⟨_,rfl⟩;rw [hT] at HE;have HTT:=lH hT;clear hT;generalize hf:(fun i=>modErr (mAt L i))=f at *;have HFF:Hid (∀i,f i=modErr (mAt L i)):=fun i=>by rw [←hf]
  clear hf;go_wp2
  go_loopw [20] (fun iv wr=>∃k:Nat,k≤L.length∧iv=.int .i64 k∧Hid (T=nzFrom f L.length k)∧Bw w2 wr) (fun iv _=>L.length - (intOf iv).toNat)
  case atStart=>exact ⟨0,Nat.zero_le _,rfl,HE,zAl _⟩
  case round=>
   obtain ⟨k,hkl,rfl,HI,hb⟩:=hrel
   by_cases hi:k<L.length
   ·have hd:decide ((k:Int)<(L.length:Int))=true:=decide_eq_true (by omega)
    have hir:(k:Int)<(L.length:Int):=by omega
    obtain ⟨m,hmi⟩:∃m,L[k]?=some m:=⟨_,List.getElem?_eq_getElem hi⟩;obtain ⟨b,o,au,cu,ad,cd,rfl,hbl,x0',x1',x2',-,-,hru,-,-,hrd⟩:=zBz HR.o hmi;have hbr:b<wr.heap.size:=Nat.lt_of_lt_of_le hbl hb.size;have x0:=(hb.cell (p:=⟨b,_,none⟩) hbl).trans x0';have x1:=(hb.cell (p:=⟨b,_,none⟩) hbl).trans x1';have x2:=(hb.cell (p:=⟨b,_,none⟩) hbl).trans x2';have HN:=lH (HI.o.trans (zBn f hi));have hC0:=zAa wr (.cells (mA m au cu ad cd) 52);have hb3:=hb.trans (hC0.mono hb.size)
    have HBC:=lH (zMe m au cu ad cd _ (zAg.1 (hru.out.below hb3)).1 (hrd.out.below hb3) (HSM.o m (List.mem_of_getElem? hmi)));have hfk:f k=modErr m:=by rw [HFF.o,zF hmi]
    rw [hfk] at HN;clear x0' x1' x2' hru hrd HI hfk;unfold modV at HBC;generalize modErr m=q at *;go_wp2_with (fail)
    refine HBC.o.mono ?_;rintro r w4 ⟨rfl,hb4⟩;have hB4:=hb3.trans (hb4.mono hb3.size);clear HBC
    by_cases hq:q=0
    ·rw [if_pos hq] at HN
     have q3:(q != 0)=false:=by rw [hq];rfl
     clear hq;go_wp2;go_roundw
     case rel=>exact ⟨k+1,by omega,by go_num,HN,hB4⟩
     case measure=>simp [intOf];omega
    ·rw [if_neg hq] at HN
     have q3:(q != 0)=true:=by simp [hq]
     clear hq;go_wp2;go_ret;exact ⟨zAc (HN.o.symm.trans HTT.o.symm),hB2.trans (hB4.mono hB2.size)⟩
   ·have hd:decide ((k:Int)<(L.length:Int))=false:=decide_eq_false (by omega)
    have HN:=lH (HI.o.trans (zBg f (by omega)));go_wp2;go_ret;exact ⟨zAc (HN.o.symm.trans HTT.o.symm),hB2.trans (hb.mono hB2.size)⟩
end Go.Proofs.YtfkjfdbjhlmjcaaGreatDoor
