/- The program's Free: -/
import Derived.Test.YtfkjfdbjhlmjcaaGreatDoorXSZc
import Derived.Test.YtfkjfdbjhlmjcaaGreatDoorXShT
set_option maxRecDepth 100000
set_option maxHeartbeats 16000000
namespace Go.Proofs.YtfkjfdbjhlmjcaaGreatDoor
open Go.RowKit Go.Shelf Go.Maps Go.Sort
attribute [local go_sem] Oper.semAt_some
attribute [local go_sem] zKc
theorem zVs (ns:List ByteArray):∀f s,(f s).isSome=true→(addF f ns s).isSome=true:=by
 induction ns with
 | nil=>intro f s h;exact h
 | cons a r ih=>
  intro f s h;refine ih _ s ?_;show (if s=a.data.toList then some (Value.bool true) else f s).isSome=true
  split
  ·rfl
  ·exact h
theorem yBe (a:ByteArray) (r:List ByteArray) (f:List UInt8→Option Value):(addF f (a::r) a.data.toList).isSome=true:=by
 refine zVs r _ _ ?_;show (if a.data.toList=a.data.toList then some (Value.bool true) else f _).isSome=true
 rw [if_pos rfl];rfl
theorem zXz {D:DataW Value} {ns:List ByteArray} (hm:Maps.IsMap D) (h:∀s,Maps.has D (.string s)=(addF (fun _=>none) ns s).isSome) (hk:∀kl,Maps.has D kl=true→∃s,kl=.string s) (hw:∀es,D=.map es→∀p∈es,WideAt.IsKeyLit p.1):strKeys D=[]↔ns=[]:=by
  obtain ⟨es,rfl⟩:=hm
  constructor
  · intro he
    cases ns with
    | nil=>rfl
    | cons a r=>
      have h1:=h a.data.toList
      rw [yBe] at h1
      cases es with
      | nil=>cases h1
      | cons p q=>simp [strKeys] at he
  · intro hn
    subst hn
    cases es with
    | nil=>rfl
    | cons p q=>
      have hp:Maps.has (DataW.map (p::q)) p.1=true:=List.any_eq_true.2 ⟨p,List.mem_cons_self ..,WideAt.sameKey_self (hw _ rfl p (List.mem_cons_self ..))⟩
      obtain ⟨s,hs⟩:=hk _ hp
      rw [hs] at hp
      rw [h s] at hp
      cases hp
theorem zSa {w:World} {b n:Nat} {ns:List ByteArray} (h:IsMapS Tryz.prog 9 w b n (addF (fun _=>none) ns)):∃D:DataW Value,w.ownsMap Tryz.prog 9 heldE b n D∧(strKeys D=[]↔ns=[])∧Maps.size D≤n:=by
 obtain ⟨D,hown,hm,hf⟩:=h;obtain ⟨es,e1,hko⟩:=hown.keysOf;obtain ⟨es',e2,_,hw⟩:=hown.entries zHa;refine ⟨D,hown,zXz hm (fun s=>(hf s).2) (fun kl hkl=>?_) (fun es2 e p hp=>?_),hown.size_le⟩
 ·subst e1
  obtain ⟨p,hp,hpk⟩:=List.any_eq_true.1 hkl;obtain ⟨v,hv⟩:=hko p hp;obtain ⟨x,_,hx,_⟩:=Maps.keyOf_str Tryz.underlying9 hv;exact ⟨x,by rw [←WideAt.sameKey_eq hpk];exact hx⟩
 ·rw [e2] at e
  cases e
  exact hw p hp
theorem yBf (x:Ex) (xa:Option Addr) (xc:Nat) (w:World) (hr:Reads w [] (subsT x.subs) (.slice xa x.subs.length xc)) (hc1:x.subs.length≤xc) (hc2:xc≤9223372036854775807) (hsm:SmX 40000 x) (hN:nodesN x≤4000000) :
  Calls Tryz.prog 158 #[exV x xa xc] w fun e w'=>∃a n c,e=.returned (.slice a n c)∧(n=0↔(freeOf x).length=0)∧Bw w w':=by
 have HR:=lH hr;have HX:=lH (fun w h=>zEo x xa xc w h hc1 hc2 hsm hN);have HB:=lH (CBox.new w 60 (xA x xa xc));have hA:=zAa w (.cells (xA x xa xc) 60);have HF:Hid (freeOf x=if exprErr x=0 then withAll [] (freeN x []) else []):=rfl;clear hr hc1 hc2
 by_cases h0:exprErr x=0
 ·have hs:=zGx h0
  have HV:=lH (zGi h0);rw [if_pos h0] at HF
  have HFN:Hid ((freeOf x).length=0↔freeN x []=[]):=by
   show _↔_
   rw [HF.o]
   constructor
   ·intro h;exact (zRv (List.eq_nil_of_length_eq_zero h)).2
   ·intro h;rw [h];rfl
  have HG:=lH (fun (W:World) (m:Nat) (h:Reads W [m] (subsT x.subs) (.slice xa x.subs.length xc)) (hm:IsMapS Tryz.prog 9 W m 0 (fun _=>none))=>zS x [] xa none xc 0 m 0 (fun _=>none) W h HV.o hsm (Reads.nilRow _ _ _ _) hm (by simp;omega) (by omega));rw [h0] at HX;unfold exV at *;simp only [List.length_nil,Nat.zero_add] at HG
  obtain ⟨i0,hi,hz0,hz1,hz2⟩:=info_parts zGh;generalize (freeOf x).length=fl at *;clear HF h0
  go_enter Tryz.func158,Tryz.ntmps158
  go_wp2_with (fail)
  refine (HX.o _ (HR.o.below hA)).mono ?_;rintro e w1 ⟨rfl,hb1⟩;have hbox:=HB.o.below hb1;obtain ⟨c0,c1,c2,c3,c4,c5,lb⟩:=zCv hbox;have hb2:=(zA hA hb1).trans ((zAa w1 (.map #[] 0)).mono (zA hA hb1).size);have hm0:=IsMapS.made Tryz.prog 9 w1;have HC2:=lH (HG.o _ w1.heap.size (((HR.o.below (zA hA hb1)).more (k:=w1.heap.size) (Nat.le_refl _)).below (zAa w1 (.map #[] 0))) hm0);have hbl:w.heap.size≤w1.heap.size:=(zA hA hb1).size;clear HG HX hm0;go_wp2_with (fail)
  refine HC2.o.mono ?_;rintro e w3 ⟨rfl,hm3,hd3⟩;obtain ⟨D,hown,hkeys,hsz⟩:=zSa hm3;have hb3:Bw w w3:=hb2.trans (hd3.upto (by have:=hb2.size;simpa using this) (by intro k hk;simp at hk;omega));generalize w1.heap.size=M at *;have HKF:Hid (strKeys D=[]↔fl=0):=lH (hkeys.trans HFN.o.symm);have hM3:M<w3.heap.size:=hown.lt;clear hm3 hd3 hb2 hbox c0 c1 c2 c3 c4 c5 lb HC2 hkeys HFN hb1 hA HB HR HV;have hlen:=fun ty=>hown.len Tryz.underlying183 ty
  obtain ⟨w4,hmk,hrow4,hg4⟩:=run_make_own (P:=Tryz.prog) w3 w3.heap.size 50 9 i0 (.string ⟨#[]⟩) 1 Tryz.underlying50 hi hz0 hz1 .i64 .i64 (Maps.size D) (by rw [hz2];omega) (by unfold maxLen;omega) (Nat.le_refl _);obtain ⟨w0,hrgn,hrg0,hg0,hs0⟩:=(hown.kept hg4 (by simp)).range zHa Tryz.underlying183;clear hs0;go_wp2;have hb4:=hb3.grown hg4 hb3.size (fun j hj=>by cases hj);have hb5:=hb4.grown hg0 hb4.size (fun j hj=>by cases hj)
  go_loopw [4] (fun v wr=>∃(left:Lit→Bool) (cnt:Nat) (ss:List (List UInt8)),wr.ranges Tryz.prog 9 heldE M w4.heap.size (nodesN x) D left cnt∧ss.length+cnt≤Maps.size D ∧
    wr.ownsRow w3.heap.size 9 1 v ss.length (ss.map encStr)∧Collected D left ss∧w3.heap.size≤wr.heap.size∧RowKit.Below w.heap.size w wr)
   (fun _ wr=>wr.rangeLeft M w4.heap.size)
  case atStart=>exact ⟨_,_,[],hrg0,by simp,hrow4.kept hg0 (Or.inr (by simp [Value.ownBlock])),Collected.start D,Nat.le_trans hg4.size hg0.size,hb5⟩
  case round=>
   obtain ⟨left,cnt,ss,hrg,hcs,hrow,hC,hw3,hnx⟩:=hrel
   rcases hrg.next zHa 0 with ⟨hc0,hl0,hrun⟩|⟨key,v,kl,y,w2,cnt2,hkey,hlk,hv,hat,hrun,hrg2,hlt,hg2,hs2,hen⟩
   ·have hperm:=hC.perm hown zHa Tryz.underlying9 hl0
    have hiff:Hid (ss.length=0↔fl=0):=lH (by
     rw [←HKF.o]
     constructor
     ·intro h;have e:=List.eq_nil_of_length_eq_zero h;rw [e] at hperm;exact List.nil_perm.1 hperm
     ·intro h;rw [h] at hperm;rw [List.perm_nil.1 hperm];rfl)
    clear hperm hC hl0 hc0
    rcases Nat.eq_zero_or_pos ss.length with hz|hz
    ·have e:=List.eq_nil_of_length_eq_zero hz
     subst e;obtain ⟨a,c,rfl⟩:=zAk hrow;clear hz;have hsort:=AnyM.slices_Sort_string_none Tryz.sortA a c wr;go_wp2_with (fail)
     refine hsort.mono ?_;rintro e w5 ⟨rfl,rfl⟩;go_wp2;go_ret;exact ⟨_,_,_,rfl,hiff.out,hnx⟩
    ·rcases hrow.2 with ⟨hnil,h0⟩|⟨g,cap,cur,rfl,hbase,hb,h1,h2,h3,h4⟩
     ·exact absurd h0 (by intro h;omega)
     have hH:Holds encStr wr g 0 ss.toArray:=holds_of_block hb (by simpa using h4);have hgl:g<wr.heap.size:=(Array.getElem?_eq_some_iff.1 hb).1;have hsort:=Tryz.sort_Strings g 0 cap ss wr hH hgl (by omega);go_wp2_with (fail)
     refine hsort.mono ?_;rintro e w5 ⟨rfl,nn,os,rfl⟩;go_wp2;go_ret;exact ⟨_,_,_,rfl,hiff.out,hnx.grown (grownBy_sorted _) hnx.size (fun j hj=>by cases hj;omega)⟩
   ·obtain ⟨x',rfl,rfl,_⟩:=Maps.keyOf_str Tryz.underlying9 hkey
    have hrow2:=hrow.kept hg2 (Or.inr (row_ne_iter hrow hrg).symm);have hs3:=hnx.size;have hs4:=hg2.size;have hs5:=hb3.size;have hs6:=hb4.size;clear hs2 hkey;go_wp2_with (at_builtin;(refine wpList_append_own _ rfl _ _ 50 rfl w3.heap.size 9 i0 (.string ⟨#[]⟩) 1 16 Tryz.underlying50 hi hz0 hz1 hz2 rfl (by decide) _ _ _ rfl (hrow2.alloc _) ⟨w2.heap.size,0,none⟩ 1 1 [encStr x'] rfl rfl (cell_one_new _ _ _) (by simp [Value.oneCell',encStr]) (by unfold maxLen at *;omega) (by omega) (by simp;omega) ?_;intro v' w5 hown' hg3 hnil3))
    have hrg3:=(hrg2.alloc _).kept hg3 (row_ne_low hrow2 hM3) (row_ne_iter hrow2 hrg2);have hw5:w3.heap.size≤w5.heap.size:=Nat.le_trans (Nat.le_trans hw3 hs4) (Nat.le_trans (Nat.le_of_lt (by simp)) hg3.size);go_roundw
    case rel=>
     refine ⟨_,cnt2,ss++[x'],hrg3,by simp;omega,by simpa using hown',hC.step hlk hat,hw5,?_⟩;exact ((hnx.grown hg2 hnx.size (fun j hj=>by cases hj;omega)).alloc (by omega) _).grown hg3 (by simp;omega) (fun j hj=>by have:=(hrow2.lt j hj).1;omega)
    case measure=>rw [hrg3.left_eq,hrg.left_eq];exact hlt
 ·rw [if_neg h0] at HF
  have hne:(exprErr x != 0)=true:=by simp [h0]
  generalize exprErr x=q at *;unfold exV at *;clear h0
  go_enter Tryz.func158,Tryz.ntmps158
  go_wp2_with (fail)
  refine (HX.o _ (HR.o.below hA)).mono ?_;rintro e w1 ⟨rfl,hb1⟩;go_wp2;go_ret;exact ⟨_,_,_,rfl,by rw [HF.o];simp,zA hA hb1⟩
end Go.Proofs.YtfkjfdbjhlmjcaaGreatDoor
namespace Go.Proofs.YtfkjfdbjhlmjcaaGreatDoor
open Go.RowKit Go.Shelf
attribute [local go_sem] Oper.semAt_some
theorem zY (label:ByteArray) (d:ODecl) (an:Option Addr) (cn:Nat) (sa:Option Addr) (cs:Nat) (w:World) (hn:Strs w (.slice an d.names.length cn) d.names) (hr:Reads w [] (subsT d.body.subs) (.slice sa d.body.subs.length cs)) (hs:∀s∈d.names,s.size≤40000) (hl:d.names.length≤1000000)
  (hc1:d.body.subs.length≤cs) (hc2:cs≤9223372036854775807) (hsm:SmX 40000 d.body) (hN:nodesN d.body≤4000000) :
  Calls Tryz.prog 108 #[.string label,declV d an cn sa cs] w fun e w'=>e=.returned (.int .i64 (declErr label d))∧Bw w w':=by
 have HNA:=lH (fun w h=>zVp d.names an cn w h hs hl);have HXE:=lH (fun w h=>zEo d.body sa cs w h hc1 hc2 hsm hN);have HK:=lH (fun w h=>zVl d.body sa cs w h hsm hN);have HG:=lH (fun w h=>yBf d.body sa cs w h hc1 hc2 hsm hN);have HT:=lH (fun Bl w hb h=>zVm label Bl d.body sa cs w hb h hsm hN);have HSR:=lH hr;have HR:=lH hn
 have HE:Hid (declErr label d=if d.id<1 then 2 else if rDeclErr d=0 then (if anyX (kindP 4) d.body then 9 else if (freeOf d.body).length=0 then (if anyX (refP label) d.body then 1 else 0) else 21) else rDeclErr d):=rfl;have HQ:Hid (rDeclErr d=if d.id<0∨999999<d.id then 2 else if d.kind<1∨3<d.kind then 9 else if namesErr d.names=0 then exprErr d.body else namesErr d.names):=rfl;have hA:Bw w ((w.alloc (.cells #[.string label] 9)).alloc (.cells (dA d an cn sa cs) 62)):=zA (zAa _ _) (zAa _ _)
 have HB:Hid (CBox ((w.alloc (.cells #[.string label] 9)).alloc (.cells (dA d an cn sa cs) 62)) (w.heap.size+1) 62 (dA d an cn sa cs)):=by
  have:=CBox.new (w.alloc (.cells #[.string label] 9)) 62 (dA d an cn sa cs);rwa [World.size_alloc] at this
 have HBL:Hid (CBox ((w.alloc (.cells #[.string label] 9)).alloc (.cells (dA d an cn sa cs) 62)) w.heap.size 9 #[.string label]):=(CBox.new w 9 #[.string label]).alloc _;have HRa:=lH (HR.o.below hA);generalize declErr label d=T at *;generalize rDeclErr d=q at *;generalize anyX (kindP 4) d.body=bk at *;generalize anyX (refP label) d.body=br at *;generalize freeOf d.body=fl at *;generalize namesErr d.names=nE at *;generalize exprErr d.body=xE at *;clear hr hn hs hsm hc1 hc2;unfold declV exV at *
 by_cases hi:d.id<1
 ·have hd:decide (d.id<1)=true:=decide_eq_true hi
  rw [if_pos hi] at HE
  go_enter Tryz.func108,Tryz.ntmps108
  go_wp2;go_ret;exact ⟨zAc HE.o.symm,hA⟩
 have hd:decide (d.id<1)=false:=decide_eq_false hi;rw [if_neg hi] at HE
 by_cases hi2:999999<d.id
 ·have hd2:decide (999999<d.id)=true:=decide_eq_true hi2
  rw [if_pos (.inr hi2)] at HQ;rw [HQ.o,if_neg (by omega)] at HE
  go_enter Tryz.func108,Tryz.ntmps108
  go_wp2;go_ret;exact ⟨zAc HE.o.symm,hA⟩
 have hd2:decide (999999<d.id)=false:=decide_eq_false hi2;rw [if_neg (by omega)] at HQ;clear hi hi2
 by_cases hk:d.kind<1∨3<d.kind
 ·have k1:(d.kind != 1)=true:=bne_iff_ne.2 (by omega)
  have k2:(d.kind != 2)=true:=bne_iff_ne.2 (by omega);have k3:(d.kind != 3)=true:=bne_iff_ne.2 (by omega);rw [if_pos hk] at HQ;rw [HQ.o,if_neg (by omega)] at HE
  go_enter Tryz.func108,Tryz.ntmps108
  go_wp2;go_ret;exact ⟨zAc HE.o.symm,hA⟩
 rw [if_neg hk] at HQ
 go_enter Tryz.func108,Tryz.ntmps108
 go_upto_region 3 with (fail)
 generalize (w.alloc (.cells #[.string label] 9)).alloc (.cells (dA d an cn sa cs) 62)=W0 at *;have lb:=HB.o.lt;have b1:=HB.o.cell (i:=1) (v:=.int .i64 d.kind) rfl
 go_cut [27] from 15 to 27 (fun v wx=>v=.bool false∧wx=W0)
 case first=>
  have h3:d.kind=1∨d.kind=2∨d.kind=3:=by omega
  have cases3:∃c1 c2 c3,(d.kind != 1)=c1∧(d.kind != 2)=c2∧(d.kind != 3)=c3∧(c1=false∨(c1=true∧c2=false)∨(c1=true∧c2=true∧c3=false)):=⟨_,_,_,rfl,rfl,rfl,by
   rcases h3 with h|h|h<;>rw [h]<;>simp⟩
  obtain ⟨c1,c2,c3,e1,e2,e3,hc⟩:=cases3;clear h3 hk HE HQ
  rcases hc with rfl|⟨rfl,rfl⟩|⟨rfl,rfl,rfl⟩
  ·go_wp2
   go_meet
   case rel=>exact ⟨rfl,rfl⟩
  ·go_wp2
   go_meet
   case rel=>exact ⟨rfl,rfl⟩
  ·go_wp2
   go_meet
   case rel=>exact ⟨rfl,rfl⟩
 case rest=>
 obtain ⟨rfl,rfl⟩:=hcut;clear hk hd hd2;have b3:=HB.o.cell (i:=3) (v:=.slice an d.names.length cn) rfl;go_wp2_with (fail)
 refine (HNA.o _ HRa.o).mono ?_;rintro e w1 ⟨rfl,hb1⟩;have hB1:=zA hA hb1;have m1:=(HB.o).below hb1;obtain ⟨-,-,-,-,-,m1c5,m1c6,m1c7,m1c8,m1c9,m1c10,m1l⟩:=zAz m1;have L1:=HBL.o.below hb1
 by_cases hnE:nE=0
 ·rw [if_pos hnE] at HQ
  have q1:(nE != 0)=false:=by rw [hnE];rfl
  clear hnE;go_wp2_with (fail)
  refine (HXE.o _ (HSR.o.below hB1)).mono ?_;rintro e w2 ⟨rfl,hb2⟩;have m2:=(m1).below hb2;obtain ⟨-,-,-,-,-,m2c5,m2c6,m2c7,m2c8,m2c9,m2c10,m2l⟩:=zAz m2;have L2:=L1.below hb2;have l2:=L2.lt;have hB2:=zA hB1 hb2
  by_cases hxE:xE=0
  ·rw [HQ.o,if_pos hxE] at HE
   have q2:(xE != 0)=false:=by rw [hxE];rfl
   clear hxE
   cases bk with
   | true=>
    go_wp2_with (fail)
    refine (HK.o _ (HSR.o.below hB2)).mono ?_;rintro e w3 ⟨rfl,hb3⟩;go_wp2;go_ret;exact ⟨zAc (by rw [HE.o];rfl),zA hB2 hb3⟩
   | false=>
    go_wp2_with (fail)
    refine (HK.o _ (HSR.o.below hB2)).mono ?_;rintro e w3 ⟨rfl,hb3⟩;have m3:=(m2).below hb3;obtain ⟨-,-,-,-,-,m3c5,m3c6,m3c7,m3c8,m3c9,m3c10,m3l⟩:=zAz m3;have L3:=L2.below hb3;have l3:=L3.lt;have hB3:=zA hB2 hb3;go_wp2_with (fail)
    refine (HG.o _ (HSR.o.below hB3)).mono ?_;rintro e w4 ⟨va,vn,vc,rfl,hv,hb4⟩;have m4:=(m3).below hb4;obtain ⟨-,-,-,-,-,m4c5,m4c6,m4c7,m4c8,m4c9,m4c10,m4l⟩:=zAz m4;have L4:=L3.below hb4;have l4:=L4.lt;have hB4:=zA hB3 hb4
    by_cases hf:fl.length=0
    ·have hf3:vn=0:=hv.2 hf
     have hd5:¬0<vn:=by omega
     rw [if_neg (by simp),if_pos hf] at HE;clear hf hv hf3;go_wp2_with (fail)
     refine (HT.o _ _ L4 (HSR.o.below hB4)).mono ?_;rintro e w5 ⟨rfl,hb5⟩
     cases br with
     | true=>
      go_wp2;go_ret;exact ⟨zAc (by rw [HE.o];rfl),zA hB4 hb5⟩
     | false=>
      go_wp2;go_ret;exact ⟨zAc (by rw [HE.o];rfl),zA hB4 hb5⟩
    ·have hf3:0<vn:=by have:¬vn=0:=fun h=>hf (hv.1 h);omega
     have hd5:decide (0<(vn:Int))=true:=decide_eq_true (by omega);rw [if_neg (by simp),if_neg hf] at HE;clear hf hv;go_wp2;go_ret;exact ⟨zAc HE.o.symm,hB4⟩
  ·rw [HQ.o,if_neg hxE] at HE
   have q2:(xE != 0)=true:=by simp [hxE]
   clear hxE;go_wp2;go_ret;exact ⟨zAc HE.o.symm,hB2⟩
 ·rw [if_neg hnE] at HQ
  rw [HQ.o,if_neg hnE] at HE;have q1:(nE != 0)=true:=by simp [hnE]
  clear hnE;go_wp2;go_ret;exact ⟨zAc HE.o.symm,hB1⟩
def noDecl:ODecl:=⟨0,0,false,[],false,.mk 0 ⟨#[]⟩ ⟨#[]⟩ 0 0 []⟩
def dAt (l:List ODecl) (k:Nat):ODecl:=(l[k]?).getD noDecl
theorem zDi {l:List ODecl} {k:Nat} {d:ODecl} (h:l[k]?=some d):dAt l k=d:=by rw [dAt,h];rfl
def declAt (label:ByteArray) (l:List ODecl) (k:Nat):Int:=if declErr label (dAt l k)=0 then (if 0<k∧(dAt l k).id≤(dAt l (k - 1)).id then 10 else 0) else declErr label (dAt l k)
def modErr (m:OMod):Int:=
 if labelS m.label then (if usesErr m.uses=0 then (if nzFrom (useErr m.label m.uses) m.uses.length 0=0 then (if 100<m.decls.length then 4 else nzFrom (declAt m.label m.decls) m.decls.length 0) else nzFrom (useErr m.label m.uses) m.uses.length 0) else usesErr m.uses) else 6
structure SmD (d:ODecl):Prop where
 names:∀s∈d.names,s.size≤40000
 len:d.names.length≤1000000
 body:SmX 40000 d.body
 nodes:nodesN d.body≤4000000
structure SmM (m:OMod):Prop where
 label:m.label.size≤40000
 uses:∀s∈m.uses,s.size≤40000
 ulen:m.uses.length≤1000000
 decls:∀d∈m.decls,SmD d
 dlen:m.decls.length≤1000000
def modV (m:OMod) (au:Option Addr) (cu:Nat) (ad:Option Addr) (cd:Nat):Value:=.agg #[.string m.label,.slice au m.uses.length cu,.slice ad m.decls.length cd]
theorem zMe (m:OMod) (au:Option Addr) (cu:Nat) (ad:Option Addr) (cd:Nat) (w:World) (hu:Strs w (.slice au m.uses.length cu) m.uses) (hd:Reads w [] (declsT m.decls) (.slice ad m.decls.length cd)) (hs:SmM m) :
  Calls Tryz.prog 57 #[modV m au cu ad cd] w fun e w'=>e=.returned (.int .i64 (modErr m))∧Bw w w':=by
 obtain ⟨l,us,ds⟩:=m;have HL:=lH (fun w=>zFc l w hs.label);have HCS:=lH (fun w h=>zKd us au cu w h hs.uses hs.ulen);have HCU:=lH (fun i hi w h=>zPr l us i hi au cu w h hs.uses hs.ulen);have HSD:=lH hs.decls;have HU:=lH hu;have HD:=lH hd;have hul:=hs.ulen;have hdl:=hs.dlen;have HB:=lH (CBox.new w 52 #[.string l,.slice au us.length cu,.slice ad ds.length cd]);have hA:=zAa w (.cells #[.string l,.slice au us.length cu,.slice ad ds.length cd] 52)
 have HE:Hid (modErr ⟨l,us,ds⟩=if labelS l then (if usesErr us=0 then (if nzFrom (useErr l us) us.length 0=0 then (if 100<ds.length then 4 else nzFrom (declAt l ds) ds.length 0) else nzFrom (useErr l us) us.length 0) else usesErr us) else 6):=rfl;unfold modV;simp only at *
 generalize modErr ⟨l,us,ds⟩=T at *;clear hu hd hs
 cases hlb:labelS l with
 | false=>
  rw [hlb] at HL HE
  go_enter Tryz.func57,Tryz.ntmps57
  go_wp2_with (fail)
  refine (HL.o _).mono ?_;rintro e w1 ⟨rfl,hb1⟩;go_wp2;go_ret;exact ⟨zAc HE.o.symm,zA hA hb1⟩
 | true=>
  rw [hlb] at HL;rw [hlb,if_pos rfl] at HE
  go_enter Tryz.func57,Tryz.ntmps57
  go_wp2_with (fail)
  refine (HL.o _).mono ?_;rintro e w1 ⟨rfl,hb1⟩;have hB1:=zA hA hb1;have b1:=HB.o.below hb1;have b1c1:=b1.cell (i:=1) (v:=.slice au us.length cu) rfl;have b1l:=b1.lt;go_wp2_with (fail)
  refine (HCS.o _ (HU.o.below hB1)).mono ?_;rintro e w2 ⟨rfl,hb2⟩;have hB2:=zA hB1 hb2;have b2:=b1.below hb2;have b2c0:=b2.cell (i:=0) (v:=.string l) rfl;have b2c1:=b2.cell (i:=1) (v:=.slice au us.length cu) rfl;have b2l:=b2.lt;have HB2:=lH b2
  by_cases hue:usesErr us=0
  rotate_left
  ·rw [if_neg hue] at HE
   have q1:(usesErr us != 0)=true:=by simp [hue]
   generalize usesErr us=ue at *;clear hue;go_wp2;go_ret;exact ⟨zAc HE.o.symm,hB2⟩
  rw [if_pos hue] at HE;have q1:(usesErr us != 0)=false:=by rw [hue];rfl
  generalize usesErr us=ue at *;clear hue b1 b1c1 b1l b2 HL HCS hb1 hb2 hA HB;go_wp2
  go_loopw [23] (fun iv wr=>∃i:Nat,i≤us.length∧iv=.int .i64 i∧Hid (nzFrom (useErr l us) us.length 0=nzFrom (useErr l us) us.length i)∧CBox wr w.heap.size 52 #[.string l,.slice au us.length cu,.slice ad ds.length cd]∧Bw w wr) (fun iv _=>us.length - (intOf iv).toNat)
  case atStart=>exact ⟨0,Nat.zero_le _,rfl,rfl,HB2.o,hB2⟩
  case round=>
   obtain ⟨i,hil,rfl,HI,hbox,hb⟩:=hrel;obtain ⟨c0,c1,c2,lb⟩:=zAh hbox
   by_cases hi:i<us.length
   ·have hd:decide ((i:Int)<(us.length:Int))=true:=decide_eq_true (by omega)
    have HN:=lH (HI.o.trans (zBn (useErr l us) hi));have HCC:=lH (HCU.o i hi wr (HU.o.below hb));clear HI
    by_cases he:useErr l us i=0
    ·rw [if_pos he] at HN
     have q2:(useErr l us i != 0)=false:=by rw [he];rfl
     generalize useErr l us i=ue2 at *;clear he;go_wp2_with (fail)
     refine HCC.o.mono ?_;rintro e w3 ⟨rfl,hb3⟩;have hbox3:=hbox.below hb3;go_wp2;go_roundw
     case rel=>exact ⟨i+1,by omega,by go_num,HN,hbox3,hb.trans (hb3.mono hb.size)⟩
     case measure=>simp [intOf];omega
    ·rw [if_neg he] at HN
     rw [HN.o,if_neg he] at HE;have q2:(useErr l us i != 0)=true:=by simp [he]
     generalize useErr l us i=ue2 at *;clear he;go_wp2_with (fail)
     refine HCC.o.mono ?_;rintro e w3 ⟨rfl,hb3⟩;go_wp2;go_ret;exact ⟨zAc HE.o.symm,hb.trans (hb3.mono hb.size)⟩
   ·have hd:decide ((i:Int)<(us.length:Int))=false:=decide_eq_false (by omega)
    rw [HI.o,zBg _ (by omega),if_pos rfl] at HE;clear HI HCU
    by_cases h100:100<ds.length
    ·rw [if_pos h100] at HE
     have hd2:decide ((100:Int)<(ds.length:Int))=true:=decide_eq_true (by omega);go_wp2;go_ret;exact ⟨zAc HE.o.symm,hb⟩
    ·rw [if_neg h100] at HE
     have hd2:decide ((100:Int)<(ds.length:Int))=false:=decide_eq_false (by omega);have HBX:=lH hbox;have hbo:=hb;generalize wr=wo at *;go_wp2;clear hd hd2 c0 c1 c2 lb hil hi
     go_loopw [43] (fun iv wr=>∃i:Nat,i≤ds.length∧iv=.int .i64 i∧Hid (T=nzFrom (declAt l ds) ds.length i)∧CBox wr w.heap.size 52 #[.string l,.slice au us.length cu,.slice ad ds.length cd]∧Bw w wr) (fun iv _=>ds.length - (intOf iv).toNat)
     case atStart=>exact ⟨0,Nat.zero_le _,rfl,HE,HBX.o,hbo⟩
     case round=>
      obtain ⟨i,hil,rfl,HI,hbox,hb⟩:=hrel;obtain ⟨c0,c1,c2,lb⟩:=zAh hbox
      by_cases hi:i<ds.length
      ·have hd:decide ((i:Int)<(ds.length:Int))=true:=decide_eq_true (by omega)
       obtain ⟨d,hdi⟩:∃d,ds[i]?=some d:=⟨_,List.getElem?_eq_getElem hi⟩;obtain ⟨b,o,an,cn,sa,cs,rfl,hbl,hcell,hn1,hn2,hsn,hs1,hs2,hsr⟩:=zAv (HD.o.below hb) hdi;have hsd:=HSD.o d (List.mem_of_getElem? hdi);have hA3:=zAa wr (.cells (declL d an cn sa cs).toArray 62);have HDB:=lH (zY l d an cn sa cs _ (zAg.1 (hsn.out.below hA3)).1 (hsr.out.below hA3) hsd.names hsd.len hs1 hs2 hsd.body hsd.nodes);have HBX3:=lH (CBox.new wr 62 (declL d an cn sa cs).toArray);have x0:=hcell 0 _ rfl;have x1:=hcell 1 _ rfl
       have x2:=hcell 2 _ rfl;have x3:=hcell 3 _ rfl;have x4:=hcell 4 _ rfl;have x5:=hcell 5 _ rfl;have x6:=hcell 6 _ rfl;have x7:=hcell 7 _ rfl;have x8:=hcell 8 _ rfl;have x9:=hcell 9 _ rfl;have x10:=hcell 10 _ rfl;have HN:=lH (HI.o.trans (zBn (declAt l ds) hi));have HAt:Hid (declAt l ds i=if declErr l d=0 then (if 0<i∧d.id≤(dAt ds (i - 1)).id then 10 else 0) else declErr l d):=by show _=_;rw [declAt,zDi hdi]
       clear hsd hsr hsn hcell HI;unfold declL declV at *;rw [Nat.add_zero] at x0
       by_cases he:declErr l d=0
       ·rw [if_pos he] at HAt
        have q3:(declErr l d != 0)=false:=by rw [he];rfl
        generalize declErr l d=dE at *;clear he;go_wp2_with (fail)
        refine HDB.o.mono ?_;rintro e w4 ⟨rfl,hb4⟩;have hbox4:=(hbox.below hA3).below hb4;have HX4:=lH (HBX3.o.below hb4);have hB4:=hb.trans ((zA hA3 hb4).mono hb.size);have y0:=HX4.o.cell (i:=0) (v:=.int .i64 d.id) rfl;have y2:=hbox4.cell (i:=2) (v:=.slice (some ⟨b,o,none⟩) ds.length cd) rfl;have yl:=HX4.o.lt;have ylb:=hbox4.lt
        cases i with
        | zero=>
         rw [if_neg (by omega)] at HAt;rw [HAt.o,if_pos rfl] at HN;have hd0:decide ((0:Int)<((0:Nat):Int))=false:=rfl;go_wp2_with (fail)
         go_quiet (fail)
         go_wp2;go_roundw
         case rel=>exact ⟨1,by omega,by go_num,HN,hbox4.below (below_drewN (zAl _) _),below_drewN hB4 _⟩
         case measure=>simp [intOf];omega
        | succ j=>
         obtain ⟨d',hdj⟩:∃d,ds[j]?=some d:=⟨_,List.getElem?_eq_getElem (by omega)⟩;obtain ⟨_,_,an',cn',sa',cs',e,hbl4,hcell',-⟩:=zAv (HD.o.below hB4) hdj
         cases e
         have z0:=hcell' 0 (.int .i64 d'.id) rfl;rw [Nat.add_zero] at z0;have hw1:IntKind.i64.wrap ((j:Int)+1 - 1)=(j:Int):=by rw [Int.add_sub_cancel];exact IntWalk.i64_in _ (by omega)
         have hd0:decide ((0:Int)<(j:Int)+1)=true:=decide_eq_true (by omega);have hj1:(j:Int)<(ds.length:Int):=by omega
         rw [Nat.add_sub_cancel,zDi hdj] at HAt;clear hcell'
         by_cases hle:d.id≤d'.id
         ·have hd5:decide (d.id≤d'.id)=true:=decide_eq_true hle
          rw [if_pos ⟨by omega,hle⟩] at HAt;rw [HAt.o,if_neg (by omega)] at HN;clear HAt;go_wp2_with (fail)
          go_quiet (fail)
          go_wp2;go_ret;exact ⟨zAc HN.o.symm,below_drewN hB4 _⟩
         ·have hd5:decide (d.id≤d'.id)=false:=decide_eq_false hle
          rw [if_neg (fun h=>hle h.2)] at HAt;rw [HAt.o,if_pos rfl] at HN;clear HAt;go_wp2_with (fail)
          go_quiet (fail)
          go_wp2;go_roundw
          case rel=>exact ⟨j+1+1,by omega,by go_num,HN,hbox4.below (below_drewN (zAl _) _),below_drewN hB4 _⟩
          case measure=>simp [intOf];omega
       ·rw [if_neg he] at HAt
        rw [HAt.o,if_neg he] at HN;have q3:(declErr l d != 0)=true:=by simp [he]
        generalize declErr l d=dE at *;clear he;go_wp2_with (fail)
        refine HDB.o.mono ?_;rintro e w4 ⟨rfl,hb4⟩;go_wp2;go_ret;exact ⟨zAc HN.o.symm,hb.trans ((zA hA3 hb4).mono hb.size)⟩
      ·have hd:decide ((i:Int)<(ds.length:Int))=false:=decide_eq_false (by omega)
       have HF:Hid (T=0):=by show _=_;rw [HI.o,zBg _ (by omega)]
       go_wp2;go_ret;exact ⟨zAc HF.o.symm,hb⟩
theorem zDc (m:OMod) (au:Option Addr) (cu:Nat) (ad:Option Addr) (cd:Nat) (w:World) (hu:Strs w (.slice au m.uses.length cu) m.uses) (hd:Reads w [] (declsT m.decls) (.slice ad m.decls.length cd)) (hs:SmM m) :
  Calls Tryz.prog 59 #[modV m au cu ad cd] w fun e w'=>e=.returned (.int .i64 (modErr m))∧Bw w w':=by
 obtain ⟨l,us,ds⟩:=m;have HL:=lH (fun w=>zFt l w hs.label);have HCS:=lH (fun w h=>zLm us au cu w h hs.uses hs.ulen);have HCU:=lH (fun w h=>zRs l us au cu w h hs.uses hs.ulen);have HSD:=lH hs.decls;have HU:=lH hu;have HD:=lH hd;have hul:=hs.ulen;have hdl:=hs.dlen;have HB:=lH (CBox.new w 52 #[.string l,.slice au us.length cu,.slice ad ds.length cd]);have hA:=zAa w (.cells #[.string l,.slice au us.length cu,.slice ad ds.length cd] 52)
 have HE:Hid (modErr ⟨l,us,ds⟩=if labelS l then (if usesErr us=0 then (if nzFrom (useErr l us) us.length 0=0 then (if 100<ds.length then 4 else nzFrom (declAt l ds) ds.length 0) else nzFrom (useErr l us) us.length 0) else usesErr us) else 6):=rfl;unfold modV;simp only at *
 generalize modErr ⟨l,us,ds⟩=T at *;clear hu hd hs
 cases hlb:labelS l with
 | false=>
  rw [hlb] at HL HE
  go_enter Tryz.func59,Tryz.ntmps59
  go_wp2_with (fail)
  refine (HL.o _).mono ?_;rintro e w1 ⟨rfl,rfl⟩;go_wp2;go_ret;exact ⟨zAc HE.o.symm,hA⟩
 | true=>
  rw [hlb] at HL;rw [hlb,if_pos rfl] at HE
  go_enter Tryz.func59,Tryz.ntmps59
  go_wp2_with (fail)
  refine (HL.o _).mono ?_;rintro e w1 ⟨rfl,rfl⟩;go_wp2_with (fail)
  refine (HCS.o _ (HU.o.below hA)).mono ?_;rintro e w2 ⟨rfl,hb2⟩;have hB2:=zA hA hb2;have b2:=HB.o.below hb2;have b2c0:=b2.cell (i:=0) (v:=.string l) rfl;have b2c1:=b2.cell (i:=1) (v:=.slice au us.length cu) rfl;have b2l:=b2.lt
  by_cases hue:usesErr us=0
  rotate_left
  ·rw [if_neg hue] at HE
   have q1:(usesErr us != 0)=true:=by simp [hue]
   generalize usesErr us=ue at *;clear hue;go_wp2;go_ret;exact ⟨zAc HE.o.symm,hB2⟩
  rw [if_pos hue] at HE;have q1:(usesErr us != 0)=false:=by rw [hue];rfl
  generalize usesErr us=ue at *;clear hue HL HCS;go_wp2_with (fail)
  refine (HCU.o _ (HU.o.below hB2)).mono ?_;rintro e w3 ⟨rfl,hb3⟩;have hB3:=zA hB2 hb3;have b3:=b2.below hb3;have b3c0:=b3.cell (i:=0) (v:=.string l) rfl;have b3c2:=b3.cell (i:=2) (v:=.slice ad ds.length cd) rfl;have b3l:=b3.lt;clear b2c0 b2c1 b2l b2 HB hA hb2
  by_cases he:nzFrom (useErr l us) us.length 0=0
  rotate_left
  ·rw [if_neg he] at HE
   have q2:(nzFrom (useErr l us) us.length 0 != 0)=true:=by simp [he]
   generalize nzFrom (useErr l us) us.length 0=ne at *;clear he;go_wp2;go_ret;exact ⟨zAc HE.o.symm,hB3⟩
  rw [if_pos he] at HE;have q2:(nzFrom (useErr l us) us.length 0 != 0)=false:=by rw [he];rfl
  generalize nzFrom (useErr l us) us.length 0=ne at *;clear he HCU hb3
  by_cases h100:100<ds.length
  ·rw [if_pos h100] at HE
   have hd2:decide ((100:Int)<(ds.length:Int))=true:=decide_eq_true (by omega);go_wp2;go_ret;exact ⟨zAc HE.o.symm,hB3⟩
  rw [if_neg h100] at HE;have hd2:decide ((100:Int)<(ds.length:Int))=false:=decide_eq_false (by omega);have HBX:=lH b3;have hbo:=hB3;go_wp2;clear hd2 b3c0 b3c2 b3l b3
  go_loopw [5] (fun iv wr=>∃i:Nat,i≤ds.length∧iv=.int .i64 i∧Hid (T=nzFrom (declAt l ds) ds.length i)∧CBox wr w.heap.size 52 #[.string l,.slice au us.length cu,.slice ad ds.length cd]∧Bw w wr) (fun iv _=>ds.length - (intOf iv).toNat)
  case atStart=>exact ⟨0,Nat.zero_le _,rfl,HE,HBX.o,hbo⟩
  case round=>
   obtain ⟨i,hil,rfl,HI,hbox,hb⟩:=hrel;obtain ⟨c0,c1,c2,lb⟩:=zAh hbox
   by_cases hi:i<ds.length
   ·have hd:decide ((i:Int)<(ds.length:Int))=true:=decide_eq_true (by omega)
    obtain ⟨d,hdi⟩:∃d,ds[i]?=some d:=⟨_,List.getElem?_eq_getElem hi⟩;obtain ⟨b,o,an,cn,sa,cs,rfl,hbl,hcell,hn1,hn2,hsn,hs1,hs2,hsr⟩:=zAv (HD.o.below hb) hdi;have hsd:=HSD.o d (List.mem_of_getElem? hdi);have HDB:=lH (fun w' (h':RowKit.Below wr.heap.size wr w')=>zRz l d an cn sa cs w' (zAg.1 (hsn.out.below h')).1 (hsr.out.below h') hsd.names hsd.len hsd.body hsd.nodes);have x0:=hcell 0 _ rfl;have x1:=hcell 1 _ rfl;have x2:=hcell 2 _ rfl;have x3:=hcell 3 _ rfl;have x4:=hcell 4 _ rfl;have x5:=hcell 5 _ rfl
    have x6:=hcell 6 _ rfl;have x7:=hcell 7 _ rfl;have x8:=hcell 8 _ rfl;have x9:=hcell 9 _ rfl;have x10:=hcell 10 _ rfl;have HN:=lH (HI.o.trans (zBn (declAt l ds) hi));have HAt:Hid (declAt l ds i=if declErr l d=0 then (if 0<i∧d.id≤(dAt ds (i - 1)).id then 10 else 0) else declErr l d):=by show _=_;rw [declAt,zDi hdi]
    clear hsd hsr hsn hcell HI;unfold declL declV at *;rw [Nat.add_zero] at x0;have hi3:(i:Int)<(ds.length:Int):=by omega
    go_upto_region 14 with (fail)
    go_cut [6] from 36 to 43 (fun v wx=>v=.int .i64 (declErr l d)∧RowKit.Below wr.heap.size wr wx)
    case first=>
     have HC0:=lH c0
     refine wp_region_noPanic (zEp (fun W:World=>W.cell? ⟨w.heap.size,0,none⟩=some (.string l)∧W.cell? ⟨w.heap.size,2,none⟩=some (.slice (some ⟨b,o,none⟩) ds.length cd)∧b<W.heap.size∧w.heap.size<W.heap.size∧W.cell? ⟨b,o+i * 11,none⟩=some (.int .i64 d.id)∧W.cell? ⟨b,o+i * 11+1,none⟩=some (.int .i64 d.kind)∧W.cell? ⟨b,o+i * 11+2,none⟩=some (.bool d.pub)∧W.cell? ⟨b,o+i * 11+3,none⟩=some (.slice an d.names.length cn)∧W.cell? ⟨b,o+i * 11+4,none⟩=some (.bool d.doubt)∧W.cell? ⟨b,o+i * 11+5,none⟩=some (.int .i64 d.body.kind)∧W.cell? ⟨b,o+i * 11+6,none⟩=some (.string d.body.name)∧W.cell? ⟨b,o+i * 11+7,none⟩=some (.string d.body.more)∧W.cell? ⟨b,o+i * 11+8,none⟩=some (.int .i64 d.body.num)∧W.cell? ⟨b,o+i * 11+9,none⟩=some (.int .i64 d.body.den)∧W.cell? ⟨b,o+i * 11+10,none⟩=some (.slice sa d.body.subs.length cs)) [true,true,true,true,true,true,true] zBm (by kernel_rfl) (fun _ _ _ _ _ h=>h) ⟨c0,c2,hbl,lb,x0,x1,x2,x3,x4,x5,x6,x7,x8,x9,x10⟩ (fun hHeld=>?_))
     iterate 7 (first|(refine zGz (by rfl) ?_;(try simp only [Act.put,List.setIfInBounds_toArray,List.set_cons_zero,List.set_cons_succ]))|(refine zGy (v:=?_) (by rfl) ?_ ?_;rotate_left;(focus (intro wq hSw;(try dsimp only at hSw);go_simp;(try with_reducible rfl)));(try simp only [Act.put,List.setIfInBounds_toArray,List.set_cons_zero,List.set_cons_succ])))
     refine zJe ?_;have hdr:RowKit.Below wr.heap.size wr wr.drew:=(Mod.refl [] wr).drew.below;clear hHeld c0 c1 c2 x0 x1 x2 x3 x4 x5 x6 x7 x8 x9 x10;generalize wr.drew=wd at *;go_wp2_with (fail)
     refine (HDB.o _ hdr).mono ?_;rintro e w3 ⟨rfl,hb3⟩;go_wp2;refine NoPanic.normal ?_;go_wp2;go_meet
     case rel=>exact ⟨rfl,zA hdr hb3⟩
    case rest=>
    obtain ⟨rfl,hb4⟩:=hcut;have hbox4:=hbox.below hb4;have hB4:=hb.trans (hb4.mono hb.size);have y2:=hbox4.cell (i:=2) (v:=.slice (some ⟨b,o,none⟩) ds.length cd) rfl;have ylb:=hbox4.lt;have y0:=(hb4.cell (p:=⟨b,_,none⟩) hbl).trans x0;have ybl:=Nat.lt_of_lt_of_le hbl hb4.size;clear c0 c1 c2 x0 x1 x2 x3 x4 x5 x6 x7 x8 x9 x10
    by_cases he:declErr l d=0
    ·rw [if_pos he] at HAt
     have q3:(declErr l d != 0)=false:=by rw [he];rfl
     generalize declErr l d=dE at *;clear he
     cases i with
     | zero=>
      rw [if_neg (by omega)] at HAt;rw [HAt.o,if_pos rfl] at HN;have hd0:decide ((0:Int)<((0:Nat):Int))=false:=rfl;go_wp2_with (fail)
      go_quiet (fail)
      go_wp2;go_roundw
      case rel=>exact ⟨1,by omega,by go_num,HN,hbox4.below (below_drewN (zAl _) _),below_drewN hB4 _⟩
      case measure=>simp [intOf];omega
     | succ j=>
      obtain ⟨d',hdj⟩:∃d,ds[j]?=some d:=⟨_,List.getElem?_eq_getElem (by omega)⟩;obtain ⟨_,_,an',cn',sa',cs',e,hbl4,hcell',-⟩:=zAv (HD.o.below hB4) hdj
      cases e
      have z0:=hcell' 0 (.int .i64 d'.id) rfl;rw [Nat.add_zero] at z0;have hw1:IntKind.i64.wrap ((j:Int)+1 - 1)=(j:Int):=by rw [Int.add_sub_cancel];exact IntWalk.i64_in _ (by omega)
      have hd0:decide ((0:Int)<(j:Int)+1)=true:=decide_eq_true (by omega);have hj1:(j:Int)<(ds.length:Int):=by omega
      rw [Nat.add_sub_cancel,zDi hdj] at HAt;clear hcell'
      by_cases hle:d.id≤d'.id
      ·have hd5:decide (d.id≤d'.id)=true:=decide_eq_true hle
       rw [if_pos ⟨by omega,hle⟩] at HAt;rw [HAt.o,if_neg (by omega)] at HN;clear HAt;go_wp2_with (fail)
       go_quiet (fail)
       go_wp2;go_ret;exact ⟨zAc HN.o.symm,below_drewN hB4 _⟩
      ·have hd5:decide (d.id≤d'.id)=false:=decide_eq_false hle
       rw [if_neg (fun h=>hle h.2)] at HAt;rw [HAt.o,if_pos rfl] at HN;clear HAt;go_wp2_with (fail)
       go_quiet (fail)
       go_wp2;go_roundw
       case rel=>exact ⟨j+1+1,by omega,by go_num,HN,hbox4.below (below_drewN (zAl _) _),below_drewN hB4 _⟩
       case measure=>simp [intOf];omega
    ·rw [if_neg he] at HAt
     rw [HAt.o,if_neg he] at HN;have q3:(declErr l d != 0)=true:=by simp [he]
     generalize declErr l d=dE at *;clear he;go_wp2;go_ret;exact ⟨zAc HN.o.symm,hB4⟩
   ·have hd:decide ((i:Int)<(ds.length:Int))=false:=decide_eq_false (by omega)
    have HF:Hid (T=0):=by show _=_;rw [HI.o,zBg _ (by omega)]
    go_wp2;go_ret;exact ⟨zAc HF.o.symm,hb⟩
end Go.Proofs.YtfkjfdbjhlmjcaaGreatDoor
