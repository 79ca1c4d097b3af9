/- bind.visit, bind.contains. -/
import Derived.Test.YtfkjfdbjhlmjcaaGreatDoorXG7
import Derived.Test.YtfkjfdbjhlmjcaaGreatDoorXSyF
import Derived.Test.YtfkjfdbjhlmjcaaGreatDoorXSyE
set_option maxRecDepth 100000
set_option maxHeartbeats 16000000
namespace Go.Proofs.YtfkjfdbjhlmjcaaGreatDoor
open Go.RowKit Go.Shelf
attribute [local go_sem] Oper.semAt_some
theorem zTq:(Tryz.prog.info? 60).map (fun i=>(i.zero,i.size,i.bytes))=some (some (.agg #[.int .i64 0,.string ⟨#[]⟩,.string ⟨#[]⟩,.int .i64 0,.int .i64 0,.slice none 0 0]),6,80):=by kernel_rfl
theorem zK {α:Type} (l:List α):l=[]∨∃r y,l=r++[y]:=by
 rcases List.eq_nil_or_concat l with h|⟨r,y,h⟩
 ·exact .inl h
 ·exact .inr ⟨r,y,by rw [h,List.concat_eq_append]⟩
theorem zXt (w:World) (B:Nat) (hB:B≤w.heap.size) (t:TypeId) (u0 u1 u2 u3 u4 u5:Value):(w.alloc (.cells #[u0,u1,u2,u3,u4,u5] t)).ownsRow B t 6 (.slice (some ⟨w.heap.size,0,none⟩) 1 1) 1 [u0,u1,u2,u3,u4,u5]:=
 ⟨rfl,.inr ⟨w.heap.size,1,_,rfl,hB,World.alloc_heap_new _ _,Nat.le_refl _,by unfold maxLen;omega,rfl,rfl⟩⟩
theorem zKa {X:List Nat} {w w':World} {B:Nat} {e:TypeId} {sz:Nat} {v:Value} {n:Nat} {xs:List Value} (h:w.ownsRow B e sz v n xs) (m:Mod X w w') (hx:∀k,k∈X→k<B):w'.ownsRow B e sz v n xs:=by
 obtain ⟨h1,h2⟩:=h;refine ⟨h1,?_⟩
 rcases h2 with h2|⟨g,cap,cur,h3,h4,h5,h6⟩
 ·exact .inl h2
 ·exact .inr ⟨g,cap,cur,h3,h4,m.heap h5 (fun hk=>by have:=hx g hk;omega),h6⟩
theorem zXu (p:Ex→Bool) (l:List Ex) (y:Ex):(l++[y]).any (anyX p)=(p y || (l++y.subs).any (anyX p)):=by
 rw [List.any_append,List.any_append,List.any_cons,List.any_nil,zRo,Bool.or_false]
 cases l.any (anyX p)<;>cases p y<;>rfl
theorem zPp (p:Ex→Bool) (Bf Bo:Nat) (x:Ex) (a:Option Addr) (c:Nat) (w:World) (hr:Reads w [Bo] (subsT x.subs) (.slice a x.subs.length c)) (hsm:SmX 40000 x) (hN:nodesN x≤4000000)
  (hBo:CBox w Bo 4 #[.bool false])
  (hf:∀(y:Ex) (ya:Option Addr) (yc:Nat) (W:World),Mod [Bo] w W→CBox W Bo 4 #[.bool false]→SmX 40000 y→Calls Tryz.prog 186 #[exV y ya yc,.pointer (some ⟨Bf,0,none⟩),.pointer (some ⟨Bo,0,none⟩)] W fun e W'=>e=.returned (.bool (!p y))∧Mod [Bo] W W'∧CBox W' Bo 4 #[.bool (p y)]) :
  Calls Tryz.prog 185 #[exV x a c,.func (.func 186) #[] #[.pointer (some ⟨Bf,0,none⟩),.pointer (some ⟨Bo,0,none⟩)]] w fun e W'=>(∃v,e=.returned v)∧Mod [Bo] w W'∧CBox W' Bo 4 #[.bool (anyX p x)]:=by
 have HF:=lH hf;have HR:=lH hr;have HSM:=lH hsm;clear hf hr hsm;unfold exV at *;obtain ⟨i0,hi,hz0,hz1,hz2⟩:=info_parts zTq;have lBo:=hBo.lt;have lB0:=hBo.lt
 go_enter Tryz.func185,Tryz.ntmps185
 go_wp2;have hA2:Bw w ((w.alloc (.cells (xA x a c) 60)).alloc (.cells (xA x a c) 60)):=zA (zAa _ _) (zAa _ _);have hO:=zXt (w.alloc (.cells (xA x a c) 60)) w.heap.size (by simp) 60 (.int .i64 x.kind) (.string x.name) (.string x.more) (.int .i64 x.num) (.int .i64 x.den) (.slice a x.subs.length c);simp only [World.size_alloc] at hO
 go_loopg [4,5] (nodesN x) (fun g ov _ wr=>∃(st:List Ex) (xs:List Value),wr.ownsRow w.heap.size 60 6 ov st.length xs∧Hid (ReadsL w [Bo] (st.flatMap exprT) xs)∧Mod [Bo] w wr∧CBox wr Bo 4 #[.bool false]∧Hid (st.any (anyX p)=anyX p x)∧Hid (∀y∈st,SmX 40000 y)∧nodesL st≤4000000∧g=nodesL st)
 case atStart=>exact ⟨[x],_,hO,by show ReadsL _ _ _ _;rw [List.flatMap_cons,List.flatMap_nil,List.append_nil];exact zFs HR.o,Mod.of hA2,hBo.below hA2,by show _=_;simp,fun y hy=>by simp at hy;rw [hy];exact HSM.o,by rw [nodesL,nodesL];omega,by rw [nodesL,nodesL];rfl⟩
 case round=>
  obtain ⟨st,xs,hown,HV,hmod,hbo,HA,HS,hns,hg⟩:=hrel;obtain ⟨oa,oc,rfl⟩:=zAk hown;clear hO hA2 hBo lBo;have lBo:=hbo.lt
  rcases zK st with rfl|⟨r,y,rfl⟩
  ·have HT:Hid (anyX p x=false):=HA.o.symm
   go_wp2
   go_end0
   exact ⟨⟨_,rfl⟩,hmod,by rw [HT.o];exact hbo⟩
  ·obtain ⟨ys,sa,sc,rfl,hyl,hv,hs1,hs2,hsr⟩:=zV HV.o
   have hN1:nodesL (r++[y])=nodesL r+nodesN y:=by rw [zFq,nodesL,nodesL];omega
   have hlr:=zBq r;rw [hN1] at hns hg;have HA2:Hid (anyX p x=(p y || (r++y.subs).any (anyX p))):=HA.o.symm.trans (zXu p r y);have HSy:SmX 40000 y:=HS.o y (by simp);rw [List.length_append,List.length_cons,List.length_nil,Nat.zero_add] at hown;simp only [List.length_append,List.length_cons,List.length_nil,Nat.zero_add]
   have hpop0:=hown;obtain ⟨g,cur,rfl,hcell,hgB,hgl,hgf,hoc,hoc2,hheap⟩:=zCo hown (by omega);have hpop:=zPj hpop0 hyl;have c0:=hcell (r.length * 6) (.int .i64 y.kind) (by rw [List.getElem?_append_right (by omega),hyl,Nat.sub_self];rfl);have c1:=hcell (r.length * 6+1) (.string y.name) (by rw [List.getElem?_append_right (by omega),hyl,Nat.add_sub_cancel_left];rfl);have c2:=hcell (r.length * 6+2) (.string y.more) (by rw [List.getElem?_append_right (by omega),hyl,Nat.add_sub_cancel_left];rfl)
   have c3:=hcell (r.length * 6+3) (.int .i64 y.num) (by rw [List.getElem?_append_right (by omega),hyl,Nat.add_sub_cancel_left];rfl);have c4:=hcell (r.length * 6+4) (.int .i64 y.den) (by rw [List.getElem?_append_right (by omega),hyl,Nat.add_sub_cancel_left];rfl);have c5:=hcell (r.length * 6+5) (.slice sa y.subs.length sc) (by rw [List.getElem?_append_right (by omega),hyl,Nat.add_sub_cancel_left];rfl);have hw1:IntKind.i64.wrap (((r.length:Int)+1) - 1)=(r.length:Int):=by rw [Int.add_sub_cancel];exact IntWalk.i64_in _ (by omega)
   have hr0:(0:Int)≤(r.length:Int):=by omega
   have hr1:(r.length:Int)<(r.length:Int)+1:=by omega
   have hr2:(r.length:Int)≤(oc:Int):=by omega
   have HC:=lH (HF.o y sa sc _ (hmod.alloc (.cells (xA y sa sc) 60)) (hbo.alloc _) HSy);have hpop1:=hpop.alloc (.cells (xA y sa sc) 60);have hbx:CBox (wr.alloc (.cells (xA y sa sc) 60)) wr.heap.size 60 (xA y sa sc):=CBox.new _ _ _;have hm1:=hmod.alloc (.cells (xA y sa sc) 60);have HP:=lH hpop1;have HX:=lH hbx;clear hpop hpop0 hpop1 hbx hown hcell;go_wp2_with (fail)
   refine HC.o.mono ?_;rintro e W7 ⟨rfl,hm7,hb7⟩;have hown7:=zKa HP.o hm7 (by intro k hk;simp at hk;omega);have hx7:=HX.o.mod hm7 (by simp;omega);have hmod7:=hm1.trans hm7;have hn2:nodesL (r++y.subs)+1=nodesL r+nodesN y:=by rw [zFq,zBc];omega
   have hl2:=zBq (r++y.subs);rw [List.length_append] at hl2;clear HC HP HX hm1 hm7 c0 c1 c2 c3 c4 c5
   cases hp:p y with
   | true=>
    rw [hp] at hb7 HA2;have HT:Hid (anyX p x=true):=HA2.o;go_wp2;refine bodyPost_ret (results_none rfl _ _ _) rfl ?_;exact ⟨⟨_,rfl⟩,hmod7,by rw [HT.o];exact hb7⟩
   | false=>
    rw [hp] at hb7 HA2;have HA3:Hid ((r++y.subs).any (anyX p)=anyX p x):=by show _=_;rw [HA2.o,Bool.false_or]
    have e5:=hx7.cell (i:=5) (v:=.slice sa y.subs.length sc) rfl;have el:=hx7.lt;obtain ⟨ns,hrow,hrb,hrl⟩:=Reads.toRow hsr;have hrow7:=IsRow.mod' hrow hmod7 hrb;have HRl:=lH hrl;have HHv:=lH hv;have hsz7:=hmod7.size;clear hrow hrb hsr hrl hv;go_wp2_with (at_builtin;refine zAd rfl _ _ 58 rfl w.heap.size 60 i0 _ 6 80 Tryz.underlying58 hi hz0 hz1 hz2 rfl (by decide) _ _ _ rfl hown7 (.slice sa y.subs.length sc) y.subs.length ns rfl hrow7 (zXk HRl.o) (by unfold maxLen;omega) (by omega) (by omega) ?_;intro v8 w8 hown8 hg8 hbk8)
    have hm8:=hmod7.trans' hg8 (fun k e=>by cases e;exact hgB);have hb8:CBox w8 Bo 4 #[.bool false]:=(hg8.block Bo hb7.lt (fun e=>by have e':Bo=g:=(by injection e);omega)).trans hb7
    go_roundg (nodesL (r++y.subs))
    all_goals first|omega|exact ⟨r++y.subs,ys++ns,by rw [List.length_append];exact hown8,by show ReadsL _ _ _ _;rw [List.flatMap_append];exact ReadsL.append HRl.o HHv.o,hm8,hb8,HA3,fun z hz=>by rcases List.mem_append.1 hz with hz|hz;exact HS.o z (List.mem_append_left _ hz);exact HSy.subs z hz,by omega,rfl⟩
theorem zVj (y:Ex) (ya:Option Addr) (yc:Nat) (w:World) :
  Calls Tryz.prog 157 #[exV y ya yc] w fun e w'=>e=.returned (.bool (kindP 4 y))∧Bw w w':=by
 have hA:=zAa w (.cells (xA y ya yc) 60);have HK:Hid (kindP 4 y=(y.kind==4)):=rfl;unfold exV;generalize kindP 4 y=r at *
 go_enter Tryz.func157,Tryz.ntmps157
 go_wp2;go_ret;exact ⟨zAb HK.o.symm,hA⟩
theorem zVk (l:ByteArray) (Bl:Nat) (y:Ex) (ya:Option Addr) (yc:Nat) (w:World) (hl:CBox w Bl 9 #[.string l]) :
  Calls Tryz.prog 159 #[exV y ya yc,.pointer (some ⟨Bl,0,none⟩)] w fun e w'=>e=.returned (.bool (refP l y))∧Bw w w':=by
 have hA:=zAa w (.cells (xA y ya yc) 60);have HK:Hid (refP l y=(y.kind==5 && y.name.data.toList==l.data.toList)):=rfl;have cl:=hl.cell (i:=0) (v:=.string l) rfl;have ll:=hl.lt;unfold exV;generalize refP l y=r at *
 cases hk:y.kind==5 with
 | false=>
  rw [hk] at HK
  go_enter Tryz.func159,Tryz.ntmps159
  go_wp2;go_ret;exact ⟨zAb HK.o.symm,hA⟩
 | true=>
  rw [hk] at HK
  go_enter Tryz.func159,Tryz.ntmps159
  go_wp2;go_ret;exact ⟨zAb (by rw [HK.o,tl,tl];rfl),hA⟩
theorem zRq (Bf Bo:Nat) (b0:Bool) (y:Ex) (ya:Option Addr) (yc:Nat) (w:World) (hbf:CBox w Bf 112 #[.func (.func 157) #[] #[]]) (hbo:CBox w Bo 4 #[.bool b0]) :
  Calls Tryz.prog 186 #[exV y ya yc,.pointer (some ⟨Bf,0,none⟩),.pointer (some ⟨Bo,0,none⟩)] w fun e w'=>e=.returned (.bool (!kindP 4 y))∧Mod [Bo] w w'∧CBox w' Bo 4 #[.bool (kindP 4 y)]:=by
 have cf:=hbf.cell (i:=0) (v:=.func (.func 157) #[] #[]) rfl;have HC:=lH (fun w=>zVj y ya yc w);generalize kindP 4 y=r at *;have lf:=hbf.lt;have lo:=hbo.lt;have HO:=lH (hbo.alloc (.cells (xA y ya yc) 60));have hA:=zAa w (.cells (xA y ya yc) 60);unfold exV at *
 go_enter Tryz.func186,Tryz.ntmps186
 go_wp2_with (fail)
 refine (HC.o _).mono ?_;rintro e w1 ⟨rfl,hb1⟩;have h1:=HO.o.below hb1;have c1:=h1.cell (i:=0) (v:=.bool b0) rfl;have f1:=h1.frozen 0;have l1:=h1.lt;have hm1:=Mod.setCell (X:=[Bo]) (p:=⟨Bo,0,none⟩) (Mod.of (X:=[Bo]) (zA hA hb1)) (by simp) (.bool r);have h2:=h1.set 0 (.bool r);have c2:=h2.cell (i:=0) (v:=.bool r) rfl;go_wp2;go_ret;exact ⟨rfl,hm1,h2⟩
theorem zRr (l:ByteArray) (Bl Bf Bo:Nat) (b0:Bool) (y:Ex) (ya:Option Addr) (yc:Nat) (w:World) (hbl:CBox w Bl 9 #[.string l]) (hbf:CBox w Bf 112 #[.func (.func 159) #[] #[.pointer (some ⟨Bl,0,none⟩)]]) (hbo:CBox w Bo 4 #[.bool b0]) :
  Calls Tryz.prog 186 #[exV y ya yc,.pointer (some ⟨Bf,0,none⟩),.pointer (some ⟨Bo,0,none⟩)] w fun e w'=>e=.returned (.bool (!refP l y))∧Mod [Bo] w w'∧CBox w' Bo 4 #[.bool (refP l y)]:=by
 have cf:=hbf.cell (i:=0) (v:=.func (.func 159) #[] #[.pointer (some ⟨Bl,0,none⟩)]) rfl;have HL:=lH (hbl.alloc (.cells (xA y ya yc) 60));have HC:=lH (fun w h=>zVk l Bl y ya yc w h);generalize refP l y=r at *;have lf:=hbf.lt;have lo:=hbo.lt;have HO:=lH (hbo.alloc (.cells (xA y ya yc) 60));have hA:=zAa w (.cells (xA y ya yc) 60);unfold exV at *
 go_enter Tryz.func186,Tryz.ntmps186
 go_wp2_with (fail)
 refine (HC.o _ HL.o).mono ?_;rintro e w1 ⟨rfl,hb1⟩;have h1:=HO.o.below hb1;have c1:=h1.cell (i:=0) (v:=.bool b0) rfl;have f1:=h1.frozen 0;have l1:=h1.lt;have hm1:=Mod.setCell (X:=[Bo]) (p:=⟨Bo,0,none⟩) (Mod.of (X:=[Bo]) (zA hA hb1)) (by simp) (.bool r);have h2:=h1.set 0 (.bool r);have c2:=h2.cell (i:=0) (v:=.bool r) rfl;go_wp2;go_ret;exact ⟨rfl,hm1,h2⟩
theorem zVl (x:Ex) (a:Option Addr) (c:Nat) (w:World) (hr:Reads w [] (subsT x.subs) (.slice a x.subs.length c)) (hsm:SmX 40000 x) (hN:nodesN x≤4000000) :
  Calls Tryz.prog 156 #[exV x a c,.func (.func 157) #[] #[]] w fun e w'=>e=.returned (.bool (anyX (kindP 4) x))∧Bw w w':=by
 have hW0:∃W0,W0=((w.alloc (.cells (xA x a c) 60)).alloc (.cells #[.func (.func 157) #[] #[]] 112)).alloc (.cells #[.bool false] 4) ∧
   Bw w W0∧CBox W0 (w.heap.size+1) 112 #[.func (.func 157) #[] #[]]∧CBox W0 (w.heap.size+1+1) 4 #[.bool false]:=by
  refine ⟨_,rfl,zA (zA (zAa _ _) (zAa _ _)) (zAa _ _),?_,?_⟩
  ·have:=(CBox.new (w.alloc (.cells (xA x a c) 60)) 112 #[.func (.func 157) #[] #[]]).alloc (.cells #[.bool false] 4)
   simp only [World.size_alloc] at this;exact this
  ·have:=CBox.new ((w.alloc (.cells (xA x a c) 60)).alloc (.cells #[.func (.func 157) #[] #[]] 112)) 4 #[.bool false]
   simp only [World.size_alloc] at this;exact this
 obtain ⟨W0,hW0,hB0,hbf,hbo⟩:=hW0
 have HV:=lH (zPp (kindP 4) (w.heap.size+1) (w.heap.size+1+1) x a c W0 ((hr.more (k:=w.heap.size+1+1) (by omega)).below hB0) hsm hN hbo
  (fun y ya yc W hm hb _=>zRq (w.heap.size+1) (w.heap.size+1+1) false y ya yc W (hbf.mod hm (by simp)) hb))
 generalize anyX (kindP 4) x=r at *;unfold exV at *;rw [hW0] at HV hB0;clear hbf hbo hW0
 go_enter Tryz.func156,Tryz.ntmps156
 go_wp2_with (fail)
 refine HV.o.mono ?_;rintro e w1 ⟨⟨v,rfl⟩,hm1,hb1⟩;have c1:=hb1.cell (i:=0) (v:=.bool r) rfl;have l1:=hb1.lt;have hB1:=hB0.trans (hm1.upto (B:=w.heap.size) (by simp;omega) (by intro k hk;simp at hk;omega));go_wp2;go_ret;exact ⟨rfl,hB1⟩
theorem zVm (l:ByteArray) (Bl:Nat) (x:Ex) (a:Option Addr) (c:Nat) (w:World) (hbl:CBox w Bl 9 #[.string l]) (hr:Reads w [] (subsT x.subs) (.slice a x.subs.length c)) (hsm:SmX 40000 x) (hN:nodesN x≤4000000) :
  Calls Tryz.prog 156 #[exV x a c,.func (.func 159) #[] #[.pointer (some ⟨Bl,0,none⟩)]] w fun e w'=>e=.returned (.bool (anyX (refP l) x))∧Bw w w':=by
 have hW0:∃W0,W0=((w.alloc (.cells (xA x a c) 60)).alloc (.cells #[.func (.func 159) #[] #[.pointer (some ⟨Bl,0,none⟩)]] 112)).alloc (.cells #[.bool false] 4) ∧
   Bw w W0∧CBox W0 (w.heap.size+1) 112 #[.func (.func 159) #[] #[.pointer (some ⟨Bl,0,none⟩)]]∧CBox W0 (w.heap.size+1+1) 4 #[.bool false]:=by
  refine ⟨_,rfl,zA (zA (zAa _ _) (zAa _ _)) (zAa _ _),?_,?_⟩
  ·have:=(CBox.new (w.alloc (.cells (xA x a c) 60)) 112 #[.func (.func 159) #[] #[.pointer (some ⟨Bl,0,none⟩)]]).alloc (.cells #[.bool false] 4)
   simp only [World.size_alloc] at this;exact this
  ·have:=CBox.new ((w.alloc (.cells (xA x a c) 60)).alloc (.cells #[.func (.func 159) #[] #[.pointer (some ⟨Bl,0,none⟩)]] 112)) 4 #[.bool false]
   simp only [World.size_alloc] at this;exact this
 obtain ⟨W0,hW0,hB0,hbf,hbo⟩:=hW0;have lbl:=hbl.lt;have hbl0:=hbl.below hB0
 have HV:=lH (zPp (refP l) (w.heap.size+1) (w.heap.size+1+1) x a c W0 ((hr.more (k:=w.heap.size+1+1) (by omega)).below hB0) hsm hN hbo
  (fun y ya yc W hm hb _=>zRr l Bl (w.heap.size+1) (w.heap.size+1+1) false y ya yc W (hbl0.mod hm (by simp;omega)) (hbf.mod hm (by simp)) hb))
 generalize anyX (refP l) x=r at *;unfold exV at *;rw [hW0] at HV hB0;clear hbf hbo hW0
 go_enter Tryz.func156,Tryz.ntmps156
 go_wp2_with (fail)
 refine HV.o.mono ?_;rintro e w1 ⟨⟨v,rfl⟩,hm1,hb1⟩;have c1:=hb1.cell (i:=0) (v:=.bool r) rfl;have l1:=hb1.lt;have hB1:=hB0.trans (hm1.upto (B:=w.heap.size) (by simp;omega) (by intro k hk;simp at hk;omega));go_wp2;go_ret;exact ⟨rfl,hB1⟩
def varX (s:ByteArray):Ex:=.mk 3 s ⟨#[]⟩ 0 0 []
theorem yBa (s:ByteArray):exprErr (varX s)=if nmS s then 0 else 6:=by
 have h1:nodesN (varX s)=1:=by rw [varX,nodesN,nodesL]
 have h2:depthN (varX s)=1:=by rw [varX,depthN,depthL]
 rw [exprErr,h1,h2,if_neg (by omega),zCc,List.map_cons,firstE]
 have h3:nodeErr (varX s)=if nmS s then 0 else 6:=by
  have e1:argBad (varX s) 1 0 0=false:=by simp [argBad,varX,isE,Ex.more,Ex.num,Ex.den,Ex.subs]
  have e2:namesOk (varX s) 1=nmS s:=by simp [namesOk,varX,Ex.kind,Ex.name]
  have e3:numsOk (varX s)=true:=by simp [numsOk,varX,Ex.kind]
  have e4:¬((varX s).kind=13∧(varX s).name.data.toList=(varX s).more.data.toList):=fun h=>by have:=h.1;simp [varX,Ex.kind] at this
  unfold nodeErr;rw [show shapeK (varX s).kind=some (1,0,0) from rfl];simp only []
  rw [e1,e2,e3,if_neg e4]
  cases nmS s<;>simp
 rw [h3];have h4:(preL (varX s).subs (1+1)).map (·.2)=[]:=by rw [varX,Ex.subs,preL];rfl
 rw [h4,firstE]
 cases nmS s<;>simp
theorem yDo (s:ByteArray) (h:s.size≤40000):SmX 40000 (varX s):=SmX.mk h (by simp [ByteArray.size]) (by unfold inI;omega) (by unfold inI;omega) (by unfold inI;omega) (by intro y hy;cases hy)
theorem zHy (s:ByteArray) (w:World) (hs:s.size≤40000) :
  Calls Tryz.prog 153 #[.string s] w fun e w'=>e=.returned (.bool (nmS s))∧Bw w w':=by
 have HC:=lH (zEo (varX s) none 0 w (zIj _ _ _ _ (by omega)) (Nat.le_refl _) (by omega) (yDo s hs) (by rw [varX,nodesN,nodesL];omega));rw [yBa] at HC
 cases hn:nmS s with
 | true=>
  rw [hn] at HC;simp only [if_true,exV,varX,Ex.kind,Ex.name,Ex.more,Ex.num,Ex.den,Ex.subs,List.length_nil] at HC
  go_enter Tryz.func153,Tryz.ntmps153
  go_wp2_with (fail)
  refine HC.o.mono ?_;rintro e w1 ⟨rfl,hb1⟩;go_wp2;go_ret;exact ⟨rfl,hb1⟩
 | false=>
  rw [hn] at HC;simp only [Bool.false_eq_true,exV,varX,Ex.kind,Ex.name,Ex.more,Ex.num,Ex.den,Ex.subs,List.length_nil] at HC
  go_enter Tryz.func153,Tryz.ntmps153
  go_wp2_with (fail)
  refine HC.o.mono ?_;rintro e w1 ⟨rfl,hb1⟩;go_wp2;go_ret;exact ⟨rfl,hb1⟩
def aliasS (s:ByteArray):ByteArray:=if labelS s then s.extract (lastSlS s+1).toNat s.size else ⟨#[]⟩
theorem zGv (l:List UInt8):∀n:Nat,-1≤lastSlFrom l n∧lastSlFrom l n<n
 | 0=>by rw [lastSlFrom];omega
 | n+1=>by
  have:=zGv l n;rw [lastSlFrom];split<;>omega
theorem zKb (s:ByteArray):(aliasS s).size≤s.size:=by
 unfold aliasS;split
 ·rw [ByteArray.size_extract];omega
 ·exact Nat.zero_le _
theorem zPq (s:ByteArray) (w:World) (hs:s.size≤40000) :
  Calls Tryz.prog 152 #[.string s] w fun e w'=>e=.returned (.string (aliasS s))∧Bw w w':=by
 have HL:=lH (zFc s w hs);have HI:=lH (fun w=>zGg s w hs);have HA:Hid (aliasS s=if labelS s then s.extract (lastSlS s+1).toNat s.size else ⟨#[]⟩):=rfl;have hb:=zGv s.data.toList s.size;rw [show lastSlFrom s.data.toList s.size=lastSlS s from rfl] at hb;obtain ⟨k,hk⟩:∃k:Nat,lastSlS s+1=(k:Int):=⟨(lastSlS s+1).toNat,by omega⟩;have hks:k≤s.size:=by omega
 rw [hk,Int.toNat_natCast] at HA;have hw:IntKind.i64.wrap (lastSlS s+1)=(k:Int):=by rw [hk];exact IntWalk.i64_in _ (by omega)
 clear hk;generalize lastSlS s=q at *;generalize aliasS s=r at *
 cases hl:labelS s with
 | false=>
  rw [hl] at HL HA
  go_enter Tryz.func152,Tryz.ntmps152
  go_wp2_with (fail)
  refine HL.o.mono ?_;rintro e w1 ⟨rfl,hb1⟩;go_wp2;go_ret;exact ⟨by rw [HA.o];rfl,hb1⟩
 | true=>
  rw [hl] at HL HA
  go_enter Tryz.func152,Tryz.ntmps152
  go_wp2_with (fail)
  refine HL.o.mono ?_;rintro e w1 ⟨rfl,hb1⟩;go_wp2_with (fail)
  refine (HI.o _).mono ?_;rintro e w2 ⟨rfl,rfl⟩;go_wp2;go_ret;exact ⟨by rw [HA.o];rfl,hb1⟩
theorem zMd (s:ByteArray) (w:World) (hs:s.size≤40000) :
  Calls Tryz.prog 163 #[.string s] w fun e w'=>e=.returned (.string (aliasS s))∧w=w':=by
 have HL:=lH (zFt s w hs);have HA:Hid (aliasS s=if labelS s then s.extract (lastSlS s+1).toNat s.size else ⟨#[]⟩):=rfl;generalize aliasS s=r at *
 cases hl:labelS s with
 | false=>
  rw [hl] at HL HA
  go_enter Tryz.func163,Tryz.ntmps163
  go_wp2_with (fail)
  refine HL.o.mono ?_;rintro e w1 ⟨rfl,rfl⟩;go_wp2;go_ret;exact ⟨by rw [HA.o];rfl,rfl⟩
 | true=>
  rw [hl] at HL;rw [hl,if_pos rfl] at HA
  go_enter Tryz.func163,Tryz.ntmps163
  go_wp2_with (fail)
  refine HL.o.mono ?_;rintro e w1 ⟨rfl,rfl⟩;go_wp2
  go_loop [3] (fun i=>∃k:Nat,k≤s.size∧i=.int .i64 k∧Hid (lastSlS s=lastSlFrom s.data.toList k)) (fun i=>(intOf i).toNat)
  case atStart=>exact ⟨s.size,Nat.le_refl _,rfl,rfl⟩
  case round=>
   obtain ⟨k,hk,rfl,HK⟩:=hrel
   cases k with
   | zero=>
    have HT:Hid (s.extract (lastSlS s+1).toNat s.size=s):=by show _=_;rw [HK.o];exact ByteArray.extract_zero_size
    go_wp2;go_ret;exact ⟨by rw [HA.o,HT.o];rfl,rfl⟩
   | succ k=>
    have hlt:k<s.size:=by omega
    have hg:=zHu s k hlt;have hw:IntKind.i64.wrap (((k+1:Nat):Int) - 1)=(k:Int):=by rw [show ((k+1:Nat):Int) - 1=(k:Int) by omega];exact IntWalk.i64_in _ (by omega)
    have hp:decide ((0:Int)<((k+1:Nat):Int))=true:=decide_eq_true (by omega)
    by_cases hc:s[k]=47
    ·have hb:((s[k].toNat:Int) != 47)=false:=by rw [bne,yAp];simp [hc]
     have HF:Hid (s.extract (lastSlS s+1).toNat s.size=s.extract (k+1) s.size):=by
      show _=_
      rw [HK.o,lastSlFrom,if_pos (by rw [hg,hc])];rfl
     clear hg hc;go_wp2;go_ret;exact ⟨by rw [HA.o,HF.o];rfl,rfl⟩
    ·have hb:((s[k].toNat:Int) != 47)=true:=by rw [bne,yAp];simp [hc]
     have HF:Hid (lastSlS s=lastSlFrom s.data.toList k):=by show _=_;rw [HK.o,lastSlFrom,if_neg (by rw [hg];exact hc)]
     clear hg hc;go_wp2
     go_round
     case rel=>exact ⟨k,by omega,rfl,HF⟩
     case measure=>simp [intOf]
def firstNZ:List Int→Int
 | []=>0
 | x::r=>if x=0 then firstNZ r else x
def nzFrom (f:Nat→Int) (n k:Nat):Int:=firstNZ (((List.range n).drop k).map f)
theorem zBn (f:Nat→Int) {n k:Nat} (h:k<n):nzFrom f n k=if f k=0 then nzFrom f n (k+1) else f k:=by
 unfold nzFrom;rw [List.drop_eq_getElem_cons (by rw [List.length_range];exact h),List.map_cons,firstNZ,List.getElem_range]
theorem zBg (f:Nat→Int) {n k:Nat} (h:n≤k):nzFrom f n k=0:=by
 unfold nzFrom;rw [List.drop_eq_nil_of_le (by rw [List.length_range];exact h)];rfl
def sAt (l:List ByteArray) (i:Nat):ByteArray:=l.getD i ByteArray.empty
def useAt (l:List ByteArray) (i:Nat):Int:=if labelS (sAt l i) then (if 0<i∧Op.bytesLess (sAt l (i - 1)).toList (sAt l i).toList=false then 10 else 0) else 6
def usesErr (l:List ByteArray):Int:=if 20<l.length then 4 else nzFrom (useAt l) l.length 0
theorem zFu {l:List ByteArray} (h:∀s∈l,s.size≤40000) (i:Nat):(sAt l i).size≤40000:=by
 unfold sAt;rw [List.getD_eq_getElem?_getD]
 cases hi:l[i]? with
 | none=>show ByteArray.empty.size≤_;exact Nat.zero_le _
 | some x=>exact h x (List.mem_of_getElem? hi)
theorem zLm (l:List ByteArray) (a:Option Addr) (c:Nat) (w:World) (hr:Strs w (.slice a l.length c) l) (hs:∀s∈l,s.size≤40000) (hl:l.length≤1000000) :
  Calls Tryz.prog 111 #[.slice a l.length c] w fun e w'=>e=.returned (.int .i64 (usesErr l))∧Bw w w':=by
 have HS:=lH (zFu hs);have HR:=lH hr;clear hr hs
 by_cases h20:20<l.length
 ·have HE:Hid (usesErr l=4):=if_pos h20
  have hd:decide ((20:Int)<(l.length:Int))=true:=decide_eq_true (by omega)
  go_enter Tryz.func111,Tryz.ntmps111
  go_wp2;go_ret;exact ⟨zAc HE.o.symm,zAl _⟩
 ·have HE:Hid (usesErr l=nzFrom (useAt l) l.length 0):=if_neg h20
  have hd:decide ((20:Int)<(l.length:Int))=false:=decide_eq_false (by omega)
  go_enter Tryz.func111,Tryz.ntmps111
  go_wp2;clear hd
  go_loopw [3] (fun iv wr=>∃k:Nat,k≤l.length∧iv=.int .i64 k∧Hid (usesErr l=nzFrom (useAt l) l.length k)∧Bw w wr) (fun iv _=>l.length - (intOf iv).toNat)
  case atStart=>exact ⟨0,Nat.zero_le _,rfl,HE,zAl _⟩
  case round=>
   obtain ⟨k,hk,rfl,HK,hb⟩:=hrel
   by_cases hkl:k<l.length
   ·have hd:decide ((k:Int)<(l.length:Int))=true:=decide_eq_true (by omega)
    obtain ⟨_,_,e,_,_,hcell⟩:=(HR.o.below hb).shape;obtain ⟨b,o,e',hbl,hc⟩:=hcell k hkl
    cases e
    subst e';have ck:wr.cell? ⟨b,o+k,none⟩=some (.string (sAt l k)):=hc k hkl;have HL:=lH (zFt (sAt l k) wr (HS.o k));have HN:=lH (zBn (useAt l) hkl);have HU:Hid (useAt l k=if labelS (sAt l k) then (if 0<k∧Op.bytesLess (sAt l (k - 1)).toList (sAt l k).toList=false then 10 else 0) else 6):=rfl
    cases hlb:labelS (sAt l k) with
    | false=>
     rw [hlb] at HL HU;have HF:Hid (usesErr l=6):=by show _=_;rw [HK.o,HN.o,HU.o];rfl
     clear HK HN HU hc hcell;generalize sAt l k=s at *;go_wp2_with (fail)
     refine HL.o.mono ?_;rintro e w1 ⟨rfl,rfl⟩;go_wp2;go_ret;exact ⟨zAc HF.o.symm,hb⟩
    | true=>
     rw [hlb,if_pos rfl] at HU;rw [hlb] at HL
     cases k with
     | zero=>
      have HF:Hid (usesErr l=nzFrom (useAt l) l.length 1):=by show _=_;rw [HK.o,HN.o,HU.o];rfl
      clear HK HN HU hc hcell;rw [Nat.add_zero] at ck;have hd0:decide ((0:Int)<((0:Nat):Int))=false:=rfl;generalize sAt l 0=s at *;go_wp2_with (fail)
      refine HL.o.mono ?_;rintro e w1 ⟨rfl,rfl⟩;go_wp2_with (fail)
      go_quiet (fail)
      go_wp2;go_roundw
      case rel=>exact ⟨1,by omega,by go_num,HF,below_drewN hb _⟩
      case measure=>simp [intOf];omega
     | succ j=>
      have cj:wr.cell? ⟨b,o+j,none⟩=some (.string (sAt l j)):=hc j (by omega);have hw1:IntKind.i64.wrap ((j:Int)+1 - 1)=(j:Int):=by rw [Int.add_sub_cancel];exact IntWalk.i64_in _ (by omega)
      rw [Nat.add_sub_cancel] at HU;have hd0:decide ((0:Int)<(j:Int)+1)=true:=decide_eq_true (by omega);have hj1:(j:Int)<(l.length:Int):=by omega
      cases hle:Op.bytesLess (sAt l j).toList (sAt l (j+1)).toList with
      | false=>
       have HF:Hid (usesErr l=10):=by show _=_;rw [HK.o,HN.o,HU.o,hle];simp
       clear HK HN HU hc hcell;generalize sAt l (j+1)=s at *;generalize sAt l j=t at *;go_wp2_with (fail)
       refine HL.o.mono ?_;rintro e w1 ⟨rfl,rfl⟩;go_wp2_with (fail)
       go_quiet (fail)
       go_wp2;go_ret;exact ⟨zAc HF.o.symm,below_drewN hb _⟩
      | true=>
       have HF:Hid (usesErr l=nzFrom (useAt l) l.length (j+1+1)):=by show _=_;rw [HK.o,HN.o,HU.o,hle];simp
       clear HK HN HU hc hcell;generalize sAt l (j+1)=s at *;generalize sAt l j=t at *;go_wp2_with (fail)
       refine HL.o.mono ?_;rintro e w1 ⟨rfl,rfl⟩;go_wp2_with (fail)
       go_quiet (fail)
       go_wp2;go_roundw
       case rel=>exact ⟨j+1+1,by omega,by go_num,HF,below_drewN hb _⟩
       case measure=>simp [intOf];omega
   ·have hd:decide ((k:Int)<(l.length:Int))=false:=decide_eq_false (by omega)
    have HF:Hid (usesErr l=0):=by show _=_;rw [HK.o,zBg _ (by omega)]
    go_wp2;go_ret;exact ⟨zAc HF.o.symm,hb⟩
theorem zKc (t:TypeId) (w:World):(Instr.makeMap t none).run Tryz.prog w=.ok (.map (some w.heap.size)) (w.alloc (.map #[] 0)):=rfl
attribute [local go_sem] zKc
theorem zKd (l:List ByteArray) (a:Option Addr) (c:Nat) (w:World) (hr:Strs w (.slice a l.length c) l) (hs:∀s∈l,s.size≤40000) (hl:l.length≤1000000) :
  Calls Tryz.prog 106 #[.agg #[.slice a l.length c,.slice none 0 0]] w fun e w'=>e=.returned (.int .i64 (usesErr l))∧Bw w w':=by
 have HS:=lH (zFu hs);have HR:=lH hr;have HB:=lH (CBox.new w 149 #[.slice a l.length c,.slice none 0 0]);have hA:=zAa w (.cells #[.slice a l.length c,.slice none 0 0] 149);clear hr hs
 by_cases h20:20<l.length
 ·have HE:Hid (usesErr l=4):=if_pos h20
  have hd:decide ((20:Int)<(l.length:Int))=true:=decide_eq_true (by omega)
  go_enter Tryz.func106,Tryz.ntmps106
  go_wp2;go_ret;exact ⟨zAc HE.o.symm,hA⟩
 ·have HE:Hid (usesErr l=nzFrom (useAt l) l.length 0):=if_neg h20
  have hd:decide ((20:Int)<(l.length:Int))=false:=decide_eq_false (by omega)
  go_enter Tryz.func106,Tryz.ntmps106
  go_wp2;clear hd
  go_loopw [16] (fun iv wr=>∃k:Nat,k≤l.length∧iv=.int .i64 k∧Hid (usesErr l=nzFrom (useAt l) l.length k)∧CBox wr w.heap.size 149 #[.slice a l.length c,.slice none 0 0]∧Bw w wr) (fun iv _=>l.length - (intOf iv).toNat)
  case atStart=>exact ⟨0,Nat.zero_le _,rfl,HE,HB.o,hA⟩
  case round=>
   obtain ⟨k,hk,rfl,HK,hbox,hb⟩:=hrel;have c0:=hbox.cell (i:=0) (v:=.slice a l.length c) rfl;have c1:=hbox.cell (i:=1) (v:=.slice none 0 0) rfl;have lb:=hbox.lt
   by_cases hkl:k<l.length
   ·have hd:decide ((k:Int)<(l.length:Int))=true:=decide_eq_true (by omega)
    obtain ⟨_,_,e,_,_,hcell⟩:=(HR.o.below hb).shape;obtain ⟨b,o,e',hbl,hc⟩:=hcell k hkl
    cases e
    subst e';have ck:wr.cell? ⟨b,o+k,none⟩=some (.string (sAt l k)):=hc k hkl;have HL:=lH (zFc (sAt l k) wr (HS.o k));have HN:=lH (zBn (useAt l) hkl);have HU:Hid (useAt l k=if labelS (sAt l k) then (if 0<k∧Op.bytesLess (sAt l (k - 1)).toList (sAt l k).toList=false then 10 else 0) else 6):=rfl
    cases hlb:labelS (sAt l k) with
    | false=>
     rw [hlb] at HL HU;have HF:Hid (usesErr l=6):=by show _=_;rw [HK.o,HN.o,HU.o];rfl
     clear HK HN HU hc hcell;generalize sAt l k=s at *;go_wp2_with (fail)
     refine HL.o.mono ?_;rintro e w1 ⟨rfl,hb1⟩;have hbox1:=hbox.below hb1;have c0:=hbox1.cell (i:=0) (v:=.slice (some ⟨b,o,none⟩) l.length c) rfl;have lb1:=hbox1.lt;have ck1:=(hb1.cell (p:=⟨b,_,none⟩) hbl).trans ck;go_wp2;go_ret;exact ⟨zAc HF.o.symm,hb.trans (hb1.mono hb.size)⟩
    | true=>
     rw [hlb,if_pos rfl] at HU;rw [hlb] at HL
     cases k with
     | zero=>
      have HF:Hid (usesErr l=nzFrom (useAt l) l.length 1):=by show _=_;rw [HK.o,HN.o,HU.o];rfl
      clear HK HN HU hc hcell;rw [Nat.add_zero] at ck;have hd0:decide ((0:Int)<((0:Nat):Int))=false:=rfl;generalize sAt l 0=s at *;go_wp2_with (fail)
      refine HL.o.mono ?_;rintro e w1 ⟨rfl,hb1⟩;have hbox1:=hbox.below hb1;have c0:=hbox1.cell (i:=0) (v:=.slice (some ⟨b,o,none⟩) l.length c) rfl;have lb1:=hbox1.lt;have ck1:=(hb1.cell (p:=⟨b,_,none⟩) hbl).trans ck;go_wp2;go_roundw
      case rel=>exact ⟨1,by omega,by go_num,HF,hbox1,hb.trans (hb1.mono hb.size)⟩
      case measure=>simp [intOf];omega
     | succ j=>
      have cj:wr.cell? ⟨b,o+j,none⟩=some (.string (sAt l j)):=hc j (by omega);have hw1:IntKind.i64.wrap ((j:Int)+1 - 1)=(j:Int):=by rw [Int.add_sub_cancel];exact IntWalk.i64_in _ (by omega)
      rw [Nat.add_sub_cancel] at HU;have hd0:decide ((0:Int)<(j:Int)+1)=true:=decide_eq_true (by omega);have hj1:(j:Int)<(l.length:Int):=by omega
      cases hle:Op.bytesLess (sAt l j).toList (sAt l (j+1)).toList with
      | false=>
       have HF:Hid (usesErr l=10):=by show _=_;rw [HK.o,HN.o,HU.o,hle];simp
       clear HK HN HU hc hcell;generalize sAt l (j+1)=s at *;generalize sAt l j=t at *;go_wp2_with (fail)
       refine HL.o.mono ?_;rintro e w1 ⟨rfl,hb1⟩;have hbox1:=hbox.below hb1;have c0:=hbox1.cell (i:=0) (v:=.slice (some ⟨b,o,none⟩) l.length c) rfl;have lb1:=hbox1.lt;have ck1:=(hb1.cell (p:=⟨b,_,none⟩) hbl).trans ck;have cj1:=(hb1.cell (p:=⟨b,_,none⟩) hbl).trans cj;go_wp2;go_ret;exact ⟨zAc HF.o.symm,hb.trans (hb1.mono hb.size)⟩
      | true=>
       have HF:Hid (usesErr l=nzFrom (useAt l) l.length (j+1+1)):=by show _=_;rw [HK.o,HN.o,HU.o,hle];simp
       clear HK HN HU hc hcell;generalize sAt l (j+1)=s at *;generalize sAt l j=t at *;go_wp2_with (fail)
       refine HL.o.mono ?_;rintro e w1 ⟨rfl,hb1⟩;have hbox1:=hbox.below hb1;have c0:=hbox1.cell (i:=0) (v:=.slice (some ⟨b,o,none⟩) l.length c) rfl;have lb1:=hbox1.lt;have ck1:=(hb1.cell (p:=⟨b,_,none⟩) hbl).trans ck;have cj1:=(hb1.cell (p:=⟨b,_,none⟩) hbl).trans cj;go_wp2;go_roundw
       case rel=>exact ⟨j+1+1,by omega,by go_num,HF,hbox1,hb.trans (hb1.mono hb.size)⟩
       case measure=>simp [intOf];omega
   ·have hd:decide ((k:Int)<(l.length:Int))=false:=decide_eq_false (by omega)
    have HF:Hid (usesErr l=0):=by show _=_;rw [HK.o,zBg _ (by omega)]
    go_wp2
    go_loopw [45] (fun iv wr'=>iv=.int .i64 0∧Bw w wr') (fun _ _=>0)
    case atStart=>exact ⟨rfl,hb.trans ((zAa wr _).mono hb.size)⟩
    case round=>
     obtain ⟨rfl,hb2⟩:=hrel;go_wp2;go_ret;exact ⟨zAc HF.o.symm,hb2⟩
end Go.Proofs.YtfkjfdbjhlmjcaaGreatDoor
