/- The program's addFree. -/
import Derived.Test.YtfkjfdbjhlmjcaaGreatDoorXSyH
import Derived.Test.YtfkjfdbjhlmjcaaGreatDoorXGC
import Derived.Deep.CutBlock
set_option maxRecDepth 100000
set_option maxHeartbeats 16000000
namespace Go.Proofs.YtfkjfdbjhlmjcaaGreatDoor
open Go.RowKit Go.Shelf
attribute [local go_sem] Oper.semAt_some
theorem zCg {P:Program} {o:Oper} {a:Act} {w:World} {K:Act→World→Prop} {Q:Exit→Act→World→Prop} (s x:Operand) (t:TypeId)
  (ho:o.op=.call { callee:=.builtin .append,args:=#[s,x],argTypes:=#[t,t] })
  (base:Nat) (e:TypeId) (i:TypeInfo) (z:Value) (size bytes:Nat) (ht:P.underlying t=some (.slice e)) (hi:P.info? e=some i) (hz:i.zero=some z)
  (hsize:i.size=size) (hby:i.bytes=bytes) (hzs:z.cells.size=size) (hsz:0<size)
  (v:Value) (n:Nat) (xs:List Value) (hs:a.eval s=v) (hown:w.ownsRow base e size v n xs)
  (sv:Value) (m:Nat) (news:List Value) (hx:a.eval x=sv) (hr:IsRow w size sv m news) (h1:∀u∈news,u.oneCell'=true)
  (h63:n+m≤maxLen) (hbytes:(n+m) * bytes≤140737488355328) (hbase:base≤w.heap.size)
  (h:∀v' w',w'.ownsRow base e size v' (n+m) (xs++news)→w.grownBy w' v.ownBlock→K (a.put o.dst v') w'):o.wp P a w K Q:=by
 obtain ⟨v',w',hrun,h2,h3,h4⟩:=zE (P:=P) base t o.type e i z size bytes ht hi hz hsize hby hzs hsz v n xs hown sv m news hr h1 h63 hbytes hbase;unfold Oper.wp execOp;simp only [ho,resolve,invoke,builtin,Sem.run_bind,Sem.run_pure,Result.andThen_ok,List.map_toArray,List.map_cons,List.map_nil,hs,hx,hrun]
 exact h v' w' h2 h3
theorem zBm:Tryz.prog.follows .mixedOrders=true:=by kernel_rfl
theorem zHa:Maps.Keyed Tryz.prog 9:=Maps.string_keyed Tryz.underlying9
theorem yDr (p:ByteArray) (hp:p.size≤40000):keyOf Tryz.prog 9 (.string p)=some (.string p.data.toList):=by
 have h:p.size≤maxLen:=by unfold maxLen;omega
 simp [keyOf,mapKey,Tryz.underlying9,h]
theorem IsMapS.mono {P:Program} {k:TypeId} {w:World} {b n n':Nat} {f:List UInt8→Option Value} (h:IsMapS P k w b n f) (hn:n≤n'):IsMapS P k w b n' f:=by
 obtain ⟨D,⟨es,c,h1,h2,h3,h4⟩,h5⟩:=h;exact ⟨D,⟨es,c,h1,h2,Nat.le_trans h3 hn,h4⟩,h5⟩
def addF (f:List UInt8→Option Value) (ns:List ByteArray):List UInt8→Option Value:=ns.foldl (fun g s=>fun x=>if x=s.data.toList then some (.bool true) else g x) f
theorem zNs (f:List UInt8→Option Value) (a b:List ByteArray):addF f (a++b)=addF (addF f a) b:=List.foldl_append ..
theorem zNt {w:World} {X:List Nat} {l:List Ex} {b o cap:Nat} (h:Reads w X (subsT l) (.slice (some ⟨b,o,none⟩) l.length cap)) (hl:0<l.length):b∉X:=by
 obtain ⟨xs,_,hx,_⟩:=Reads.toRow h;exact hx hl b rfl
def AddDone (m n:Nat) (f:List UInt8→Option Value) (ns:List ByteArray) (w:World) (e:Ending) (w':World):Prop:=
  e=.returned (.tuple #[])∧IsMapS Tryz.prog 9 w' m n (addF f ns)∧Mod [m] w w'
theorem zS (x:Ex):∀(bd:List ByteArray) (xa ba:Option Addr) (xc bc m n:Nat) (f:List UInt8→Option Value) (w:World),Reads w [m] (subsT x.subs) (.slice xa x.subs.length xc)→ValX x→SmX 40000 x→Reads w [m] (strsT bd) (.slice ba bd.length bc)→IsMapS Tryz.prog 9 w m n f→bd.length+2 * nodesN x≤40000→n+nodesN x≤40000 →
  Calls Tryz.prog 187 #[exV x xa xc,.slice ba bd.length bc,.map (some m)] w (AddDone m (n+nodesN x) f (freeN x bd) w):=by
 refine Ex.ind (P:=fun x=>∀(bd:List ByteArray) (xa ba:Option Addr) (xc bc m n:Nat) (f:List UInt8→Option Value) (w:World),Reads w [m] (subsT x.subs) (.slice xa x.subs.length xc)→ValX x→SmX 40000 x→Reads w [m] (strsT bd) (.slice ba bd.length bc)→IsMapS Tryz.prog 9 w m n f→bd.length+2 * nodesN x≤40000→n+nodesN x≤40000 →
  Calls Tryz.prog 187 #[exV x xa xc,.slice ba bd.length bc,.map (some m)] w (AddDone m (n+nodesN x) f (freeN x bd) w)) (fun x ih=>?_) x
 intro bd xa ba xc bc m n f w hr hv hsm hbd hmap hb1 hb2;have HIH:=lH ih;have HV:=lH hv;have HS:=lH hsm;have HF:=lH (zNr x bd);have hpos:=zEc x;have hnm:=hsm.name;have hml:m<w.heap.size:=hmap.lt;have HB:=lH (CBox.new w 60 (xA x xa xc));have hA:=zAa w (.cells (xA x xa xc) 60);have HR:=lH (hr.below hA);have HBD:=lH (hbd.below hA);have HM:=lH (hmap.below hA);have HD:Hid (Mod [m] w (w.alloc (.cells (xA x xa xc) 60))):=lH (Mod.of hA);unfold exV at *;clear ih hr hv hsm hbd hmap
 by_cases hk3:x.kind=3
 ·have hk:(x.kind==3)=true:=by rw [hk3];rfl
  rw [if_pos hk3] at HF;have HH:=lH (fun w h=>zGs (.slice ba bd.length bc) x.name bd w h (by omega));clear hk3
  cases hm:memS x.name bd with
  | true=>
   rw [zJd,hm,if_pos rfl] at HF;rw [hm] at HH
   go_enter Tryz.func187,Tryz.ntmps187
   go_wp2_with (fail)
   refine (HH.o _ (zAg.1 HBD.o).1).mono ?_;rintro e w1 ⟨rfl,rfl⟩;go_wp2
   go_end0
   exact ⟨rfl,by rw [HF.o];exact HM.o.mono (by omega),HD.o⟩
  | false=>
   rw [zJd,hm] at HF;rw [hm] at HH;have c1:=HB.o.cell (i:=1) (v:=.string x.name) rfl;have lb:=HB.o.lt;obtain ⟨w5,hput,hm5,hg5⟩:=HM.o.put zHa Tryz.underlying183 (by unfold maxLen;omega) (yDr x.name hnm) (.bool true);have HM5:=lH hm5;have HG5:Hid (Mod [m] w w5):=lH (HD.o.trans (zAp hg5));clear hm5 hg5
   go_enter Tryz.func187,Tryz.ntmps187
   go_wp2_with (fail)
   refine (HH.o _ (zAg.1 HBD.o).1).mono ?_;rintro e w1 ⟨rfl,rfl⟩;go_wp2
   go_end0
   exact ⟨rfl,by rw [HF.o];exact HM5.o.mono (by omega),HG5.o⟩
 ·have hk:(x.kind==3)=false:=beq_eq_false_iff_ne.2 hk3
  rw [if_neg hk3] at HF;clear hk3;have hsl:nodesN x=1+nodesL x.subs:=zBc x;have hnl:=zBq x.subs
  -- a part,called with the names in scope there
  have HY:Hid (∀(y:Ex) (bd':List ByteArray) (ya a':Option Addr) (yc c' n':Nat) (g:List UInt8→Option Value) (W:World),y∈x.subs→Reads W [m] (subsT y.subs) (.slice ya y.subs.length yc)→Reads W [m] (strsT bd') (.slice a' bd'.length c')→bd'.length≤bd.length+2→IsMapS Tryz.prog 9 W m n' g→n'+nodesN y≤40000 →
    Calls Tryz.prog 187 #[.agg #[.int .i64 y.kind,.string y.name,.string y.more,.int .i64 y.num,.int .i64 y.den,.slice ya y.subs.length yc],.slice a' bd'.length c',.map (some m)] W (AddDone m (n'+nodesN y) g (freeN y bd') W)):=by
   intro y bd' ya a' yc c' n' g W hy h1 h2 h3 h4 h5;have:=zHz hy;exact HIH.o y hy bd' ya a' yc c' m n' g W h1 (HV.o.sub hy) (HS.o.subs y hy) h2 h4 (by omega) h5
  clear HIH
  -- GEN1
  by_cases hk6:x.kind=6
  ·have q6:(x.kind==6)=true:=beq_iff_eq.2 hk6
   have hl:=HV.o.funL hk6
   obtain ⟨b,o,rfl⟩:∃b o,xa=some ⟨b,o,none⟩:=by
    obtain ⟨y,hy⟩:∃y,x.subs[0]?=some y:=⟨_,List.getElem?_eq_getElem (by omega)⟩;obtain ⟨b,o,_,_,e,_⟩:=zAx HR.o hy;exact ⟨b,o,e⟩
   have hbm:=zNt HR.o (by omega);obtain ⟨y0,hy0⟩:∃y,x.subs[0]?=some y:=⟨_,List.getElem?_eq_getElem (by omega)⟩;have hm0:=List.mem_of_getElem? hy0
   have HT:Hid (addF f (freeN x bd)=addF f (freeN y0 (bd++[x.name]))):=by
    show _=_
    rw [HF.o,zDu bd hy0,zFd (j:=0+1) bd (by omega)];simp [boundAt,hk6]
   have hsum:nodesN y0+1≤nodesN x:=by
    rw [hsl]
    have e:nodesL x.subs=nodesN y0:=by
     have e0:x.subs=[y0]:=List.ext_getElem? (fun q=>by
      match q with
      | 0=>rw [hy0];rfl
      | q+1=>rw [List.getElem?_eq_none (by omega)];simp)
     rw [e0];simp [nodesL];try omega
    omega
   have hl0:0<x.subs.length:=by omega
   have hd0:decide ((0:Int)<(x.subs.length:Int))=true:=decide_eq_true (by omega);have hi0:(0:Int)<(x.subs.length:Int):=by omega
   clear hl hk6 hsl HF;have c0:=HB.o.cell (i:=0) (v:=.int .i64 x.kind) rfl;have c1:=HB.o.cell (i:=1) (v:=.string x.name) rfl;have c2:=HB.o.cell (i:=2) (v:=.string x.more) rfl;have c5:=HB.o.cell (i:=5) (v:=.slice (some ⟨b,o,none⟩) x.subs.length xc) rfl;have lb:=HB.o.lt;obtain ⟨_,_,a0,d0,e,hbl,p00,p01,p02,p03,p04,p05,-,-,hyr0⟩:=zAx HR.o hy0
   cases e
   simp only [Nat.zero_mul,Nat.add_zero] at p00 p01 p02 p03 p04 p05
   obtain ⟨i0,hi,hz0,hz1,hz2⟩:=info_parts zGh
   go_enter Tryz.func187,Tryz.ntmps187
   go_upto_region 6 with (fail)
   generalize hW0:w.alloc (.cells (xA x (some ⟨b,o,none⟩) xc) 60)=W0 at *;clear hW0;have HDW:=lH (Mod.refl [m] W0);have HMW:=HM
   have SW:Hid (∀W:World,Mod [m] W0 W→(b<W.heap.size∧W.cell? ⟨w.heap.size,1,none⟩=some (.string x.name)∧W.cell? ⟨w.heap.size,2,none⟩=some (.string x.more)∧W.cell? ⟨w.heap.size,5,none⟩=some (.slice (some ⟨b,o,none⟩) x.subs.length xc)∧W.cell? ⟨b,o,none⟩=some (.int .i64 y0.kind)∧W.cell? ⟨b,o+1,none⟩=some (.string y0.name)∧W.cell? ⟨b,o+2,none⟩=some (.string y0.more)∧W.cell? ⟨b,o+3,none⟩=some (.int .i64 y0.num)∧W.cell? ⟨b,o+4,none⟩=some (.int .i64 y0.den)∧W.cell? ⟨b,o+5,none⟩=some (.slice a0 y0.subs.length d0))):=lH (fun W hW=>⟨Nat.lt_of_lt_of_le hbl hW.size,hW.cell c1 (by simp;omega),hW.cell c2 (by simp;omega),hW.cell c5 (by simp;omega),hW.cell p00 hbm,hW.cell p01 hbm,hW.cell p02 hbm,hW.cell p03 hbm,hW.cell p04 hbm,hW.cell p05 hbm⟩)
   go_cut [] from 22 to 33 (fun wx=>Hid (IsMapS Tryz.prog 9 wx m (n+nodesN x) (addF f (freeN x bd)))∧Hid (Mod [m] w wx))
   case first=>
    refine wp_region_noPanic (zCl (fun W:World=>b<W.heap.size∧W.cell? ⟨w.heap.size,1,none⟩=some (.string x.name)∧W.cell? ⟨w.heap.size,2,none⟩=some (.string x.more)∧W.cell? ⟨w.heap.size,5,none⟩=some (.slice (some ⟨b,o,none⟩) x.subs.length xc)∧W.cell? ⟨b,o,none⟩=some (.int .i64 y0.kind)∧W.cell? ⟨b,o+1,none⟩=some (.string y0.name)∧W.cell? ⟨b,o+2,none⟩=some (.string y0.more)∧W.cell? ⟨b,o+3,none⟩=some (.int .i64 y0.num)∧W.cell? ⟨b,o+4,none⟩=some (.int .i64 y0.den)∧W.cell? ⟨b,o+5,none⟩=some (.slice a0 y0.subs.length d0)) (.take 0 (.take 1 (.take 2 (.take 3 (.take 4 (.take 6 (.take 7 (.take 10 (.two 5 8 (.one 8 (.one 9 (.one 11 .done))) (.one 5 (.one 9 (.one 11 .done)))))))))))) zBm (by kernel_rfl) (fun _ _ _ _ _ h=>h) (SW.o _ HDW.o.drew) ?_)
    iterate 8 (refine zEf (v:=?_) rfl (by rfl) ?_ ?_;rotate_left;(focus (intro wq hSw;(try dsimp only at hSw);go_simp;(try rw [if_neg (by first|omega|(simp;omega))]);(try with_reducible rfl)));(try simp only [gA,gB,gC,Act.put,gD,gE,gF]))
    have HDD:=lH HDW.o.drew;have HMD:=lH (HMW.o.below ((Mod.refl [] _).drew.below));generalize W0.drew=W1 at *;have h1s:w.heap.size<W1.heap.size:=Nat.lt_of_lt_of_le lb HDD.o.size;refine zH ?_ ?_
    ·skip
     (refine zAj rfl (by rfl) (fun K hK=>?_);go_simp)
     refine (zCx bd ba bc _ (zAg.1 (HBD.o.mod HDD.o)).1 (by omega)).mono ?_;rintro e w2 ⟨v2,rfl,ho2,hb2⟩
     (try go_simp)
     have HD2:=lH (HDD.o.trans (Mod.of hb2));refine hK.out _ _ (SW.o _ HD2.o) ?_;clear hK K;(try simp only [gA,gB,gC,Act.put,gD,gE,gF])
     (refine zAj rfl (by rfl) (fun K hK=>?_);go_simp)
     have hA3:=zAa w2 (.cells #[.string x.name] 9);have hrow3:IsRow (w2.alloc (.cells #[.string x.name] 9)) 1 (.slice (some ⟨w2.heap.size,0,none⟩) 1 1) 1 [.string x.name]:=zBa (zAi (B:=w2.heap.size) (l:=[x.name]) (zDf w2 w2.heap.size (Nat.le_refl _) (.string x.name) 9));have ho3:=ho2.alloc (.cells #[.string x.name] 9);have HD3:=lH (HD2.o.trans (Mod.of hA3));have hB3:Bw W1 (w2.alloc (.cells #[.string x.name] 9)):=hb2.trans (hA3.mono hb2.size)
     refine hK.out _ _ (SW.o _ HD3.o) ?_;clear hK K;(try simp only [gA,gB,gC,Act.put,gD,gE,gF]);generalize hz:w2.heap.size=z at *;generalize World.alloc w2 _=w3 at *;have hbase:W1.heap.size≤w3.heap.size:=hB3.size;have hW1z:w.heap.size<W1.heap.size:=h1s;refine zAj rfl (by rfl) (fun K hK=>?_);refine zCg _ _ 50 rfl W1.heap.size 9 i0 _ 1 16 Tryz.underlying50 hi hz0 hz1 hz2 rfl (by decide) v2 bd.length (bd.map .string) rfl ho3 _ 1 ([.string x.name]) rfl hrow3 (zBi [x.name]) (by unfold maxLen;omega) (by omega) hbase ?_
     intro v4 w4 ho4 hg4;have hB4:Bw W1 w4:=hB3.grown hg4 hbase (fun k hk=>(ho3.lt k hk).1);have HD4:=lH (HDD.o.trans (Mod.of hB4));have HM4:=lH (HMD.o.below hB4);refine hK.out _ _ (SW.o _ HD4.o) ?_;clear hK K;(try simp only [gA,gB,gC,Act.put,gD,gE,gF]);have ho5:=ho4;rw [show bd.map Value.string++[.string x.name]=(bd++[x.name]).map Value.string by simp,show bd.length+1=(bd++[x.name]).length by simp] at ho5;have hbl5:(bd++[x.name]).length≤bd.length+2:=by simp
     clear ho4 hg4 hB4 hrow3;generalize (bd++[x.name])=bd1 at *;obtain ⟨a5,c5',rfl⟩:=zAk ho5;have HS5:Hid (Reads w4 [m] (strsT bd1) (.slice a5 bd1.length c5')):=lH (zAg.2 ⟨zAi ho5,fun _ k hk=>by have:=(ho5.lt k hk).1;simp;omega⟩);clear ho5;have HC5:=lH (HY.o y0 bd1 a0 a5 d0 c5' (n) (f) _ hm0 (hyr0.out.mod HD4.o) HS5.o hbl5 HM4.o (by omega))
     (refine zAj rfl (by rfl) (fun K hK=>?_);go_simp)
     refine HC5.o.mono ?_;rintro e w6 ⟨rfl,hm6,hd6⟩
     (try go_simp)
     have HD6:=lH (HD4.o.trans hd6);have HM6:=lH hm6;refine hK.out _ _ (SW.o _ HD6.o) ?_;clear hK K;(try simp only [gA,gB,gC,Act.put,gD,gE,gF]);refine zCd ?_;refine NoPanic.normal ?_;go_wp2;go_meet
     case rel=>exact ⟨lH (by rw [HT.o];exact HM6.o.mono (by omega)),lH (HD.o.trans HD6.o)⟩
    ·skip
     (refine zAj rfl (by rfl) (fun K hK=>?_);go_simp)
     have hA2:=zAa W1 (.cells #[.string x.name] 9);have hrow2:IsRow (W1.alloc (.cells #[.string x.name] 9)) 1 (.slice (some ⟨W1.heap.size,0,none⟩) 1 1) 1 [.string x.name]:=zBa (zAi (B:=W1.heap.size) (l:=[x.name]) (zDf W1 W1.heap.size (Nat.le_refl _) (.string x.name) 9));have HD2:=lH (HDD.o.trans (Mod.of hA2));refine hK.out _ _ (SW.o _ HD2.o) ?_;clear hK K;(try simp only [gA,gB,gC,Act.put,gD,gE,gF]);have hzq:W1.heap.size≤(W1.alloc (.cells #[.string x.name] 9)).heap.size:=hA2.size;have hHM2:=HMD.o.below hA2
     generalize W1.heap.size=z at *;generalize World.alloc W1 _=W2 at *
     (refine zAj rfl (by rfl) (fun K hK=>?_);go_simp)
     refine (zCx bd ba bc _ (zAg.1 (HBD.o.mod HD2.o)).1 (by omega)).mono ?_;rintro e w3 ⟨v2,rfl,ho3,hB3⟩
     (try go_simp)
     have HD3:=lH (HD2.o.trans (Mod.of hB3));refine hK.out _ _ (SW.o _ HD3.o) ?_;clear hK K;(try simp only [gA,gB,gC,Act.put,gD,gE,gF]);have hrow3:=hrow2.below hB3;have hbase:W2.heap.size≤w3.heap.size:=hB3.size;have hW1z:w.heap.size<W2.heap.size:=by omega
     refine zAj rfl (by rfl) (fun K hK=>?_);refine zCg _ _ 50 rfl W2.heap.size 9 i0 _ 1 16 Tryz.underlying50 hi hz0 hz1 hz2 rfl (by decide) v2 bd.length (bd.map .string) rfl ho3 _ 1 ([.string x.name]) rfl hrow3 (zBi [x.name]) (by unfold maxLen;omega) (by omega) hbase ?_;intro v4 w4 ho4 hg4;have hB4:Bw W2 w4:=hB3.grown hg4 hbase (fun k hk=>(ho3.lt k hk).1);have HD4:=lH (HD2.o.trans (Mod.of hB4));have HM4:=lH (hHM2.below hB4);refine hK.out _ _ (SW.o _ HD4.o) ?_;clear hK K;(try simp only [gA,gB,gC,Act.put,gD,gE,gF])
     have ho5:=ho4;rw [show bd.map Value.string++[.string x.name]=(bd++[x.name]).map Value.string by simp,show bd.length+1=(bd++[x.name]).length by simp] at ho5;have hbl5:(bd++[x.name]).length≤bd.length+2:=by simp
     clear ho4 hg4 hB4 hrow3;generalize (bd++[x.name])=bd1 at *;obtain ⟨a5,c5',rfl⟩:=zAk ho5;have HS5:Hid (Reads w4 [m] (strsT bd1) (.slice a5 bd1.length c5')):=lH (zAg.2 ⟨zAi ho5,fun _ k hk=>by have:=(ho5.lt k hk).1;simp;omega⟩);clear ho5;have HC5:=lH (HY.o y0 bd1 a0 a5 d0 c5' (n) (f) _ hm0 (hyr0.out.mod HD4.o) HS5.o hbl5 HM4.o (by omega))
     (refine zAj rfl (by rfl) (fun K hK=>?_);go_simp)
     refine HC5.o.mono ?_;rintro e w6 ⟨rfl,hm6,hd6⟩
     (try go_simp)
     have HD6:=lH (HD4.o.trans hd6);have HM6:=lH hm6;refine hK.out _ _ (SW.o _ HD6.o) ?_;clear hK K;(try simp only [gA,gB,gC,Act.put,gD,gE,gF]);refine zCd ?_;refine NoPanic.normal ?_;go_wp2;go_meet
     case rel=>exact ⟨lH (by rw [HT.o];exact HM6.o.mono (by omega)),lH (HD.o.trans HD6.o)⟩
   case rest=>
    obtain ⟨hm,hd⟩:=hcut;go_wp2
    go_end0
    exact ⟨rfl,hm.out,hd.out⟩
  by_cases hk8:x.kind=8
  ·have q8:(x.kind==8)=true:=beq_iff_eq.2 hk8
   have q6:(x.kind==6)=false:=beq_eq_false_iff_ne.2 hk6;have hl:=HV.o.letL hk8
   obtain ⟨b,o,rfl⟩:∃b o,xa=some ⟨b,o,none⟩:=by
    obtain ⟨y,hy⟩:∃y,x.subs[0]?=some y:=⟨_,List.getElem?_eq_getElem (by omega)⟩;obtain ⟨b,o,_,_,e,_⟩:=zAx HR.o hy;exact ⟨b,o,e⟩
   have hbm:=zNt HR.o (by omega);obtain ⟨y0,hy0⟩:∃y,x.subs[0]?=some y:=⟨_,List.getElem?_eq_getElem (by omega)⟩;have hm0:=List.mem_of_getElem? hy0;obtain ⟨y1,hy1⟩:∃y,x.subs[1]?=some y:=⟨_,List.getElem?_eq_getElem (by omega)⟩;have hm1:=List.mem_of_getElem? hy1
   have HT:Hid (addF f (freeN x bd)=addF (addF f (freeN y0 bd)) (freeN y1 (bd++[x.name]))):=by
    show _=_
    rw [HF.o,zDu bd hy0,zDu bd hy1,zFd (j:=1+1) bd (by omega)];simp [boundAt,hk8,zNs]
   have hsum:nodesN y0+nodesN y1+1≤nodesN x:=by
    rw [hsl]
    have e:nodesL x.subs=nodesN y0+nodesN y1:=by
     have e0:x.subs=[y0,y1]:=List.ext_getElem? (fun q=>by
      match q with
      | 0=>rw [hy0];rfl
      | 1=>rw [hy1];rfl
      | q+2=>rw [List.getElem?_eq_none (by omega)];simp)
     rw [e0];simp [nodesL];try omega
    omega
   have hl0:0<x.subs.length:=by omega
   have hl1:1<x.subs.length:=by omega
   have hd0:decide ((0:Int)<(x.subs.length:Int))=true:=decide_eq_true (by omega);have hi0:(0:Int)<(x.subs.length:Int):=by omega
   have hd1:decide ((1:Int)<(x.subs.length:Int))=true:=decide_eq_true (by omega);have hi1:(1:Int)<(x.subs.length:Int):=by omega
   clear hl hk8 hsl HF;have c0:=HB.o.cell (i:=0) (v:=.int .i64 x.kind) rfl;have c1:=HB.o.cell (i:=1) (v:=.string x.name) rfl;have c2:=HB.o.cell (i:=2) (v:=.string x.more) rfl;have c5:=HB.o.cell (i:=5) (v:=.slice (some ⟨b,o,none⟩) x.subs.length xc) rfl;have lb:=HB.o.lt;obtain ⟨_,_,a0,d0,e,hbl,p00,p01,p02,p03,p04,p05,-,-,hyr0⟩:=zAx HR.o hy0
   cases e
   simp only [Nat.zero_mul,Nat.add_zero] at p00 p01 p02 p03 p04 p05
   obtain ⟨_,_,a1,d1,e,hbl,p10,p11,p12,p13,p14,p15,-,-,hyr1⟩:=zAx HR.o hy1
   cases e
   simp only [Nat.one_mul] at p10 p11 p12 p13 p14 p15
   obtain ⟨i0,hi,hz0,hz1,hz2⟩:=info_parts zGh
   go_enter Tryz.func187,Tryz.ntmps187
   have HC0:=lH (HY.o y0 bd a0 ba d0 bc (n) (f) _ hm0 hyr0.out HBD.o (by omega) HM.o (by omega));go_wp2_with (fail)
   refine HC0.o.mono ?_;rintro e w1 ⟨rfl,hm,hd⟩;generalize hW0:w.alloc (.cells (xA x (some ⟨b,o,none⟩) xc) 60)=W0 at *;clear hW0;have HD1:=lH hd;have HM1:=lH hm;clear hm hd HC0;have e1:=HD1.o.cell c1 (by simp;omega);have e2:=HD1.o.cell c2 (by simp;omega);have e5:=HD1.o.cell c5 (by simp;omega);have e6:=HD1.o.cell (HB.o.cell (i:=0) (v:=.int .i64 x.kind) rfl) (by simp;omega);have el:w.heap.size<w1.heap.size:=Nat.lt_of_lt_of_le lb HD1.o.size;have eb:b<w1.heap.size:=Nat.lt_of_lt_of_le hbl HD1.o.size
   have z0:=HD1.o.cell p10 hbm;have z1:=HD1.o.cell p11 hbm;have z2:=HD1.o.cell p12 hbm;have z3:=HD1.o.cell p13 hbm;have z4:=HD1.o.cell p14 hbm;have z5:=HD1.o.cell p15 hbm;go_upto_region 9 with (fail)
   have HDW:=HD1;have HMW:=HM1
   have SW:Hid (∀W:World,Mod [m] W0 W→(b<W.heap.size∧W.cell? ⟨w.heap.size,1,none⟩=some (.string x.name)∧W.cell? ⟨w.heap.size,2,none⟩=some (.string x.more)∧W.cell? ⟨w.heap.size,5,none⟩=some (.slice (some ⟨b,o,none⟩) x.subs.length xc)∧W.cell? ⟨b,o+6,none⟩=some (.int .i64 y1.kind)∧W.cell? ⟨b,o+6+1,none⟩=some (.string y1.name)∧W.cell? ⟨b,o+6+2,none⟩=some (.string y1.more)∧W.cell? ⟨b,o+6+3,none⟩=some (.int .i64 y1.num)∧W.cell? ⟨b,o+6+4,none⟩=some (.int .i64 y1.den)∧W.cell? ⟨b,o+6+5,none⟩=some (.slice a1 y1.subs.length d1))):=lH (fun W hW=>⟨Nat.lt_of_lt_of_le hbl hW.size,hW.cell c1 (by simp;omega),hW.cell c2 (by simp;omega),hW.cell c5 (by simp;omega),hW.cell p10 hbm,hW.cell p11 hbm,hW.cell p12 hbm,hW.cell p13 hbm,hW.cell p14 hbm,hW.cell p15 hbm⟩)
   go_cut [] from 43 to 54 (fun wx=>Hid (IsMapS Tryz.prog 9 wx m (n+nodesN x) (addF f (freeN x bd)))∧Hid (Mod [m] w wx))
   case first=>
    refine wp_region_noPanic (zCl (fun W:World=>b<W.heap.size∧W.cell? ⟨w.heap.size,1,none⟩=some (.string x.name)∧W.cell? ⟨w.heap.size,2,none⟩=some (.string x.more)∧W.cell? ⟨w.heap.size,5,none⟩=some (.slice (some ⟨b,o,none⟩) x.subs.length xc)∧W.cell? ⟨b,o+6,none⟩=some (.int .i64 y1.kind)∧W.cell? ⟨b,o+6+1,none⟩=some (.string y1.name)∧W.cell? ⟨b,o+6+2,none⟩=some (.string y1.more)∧W.cell? ⟨b,o+6+3,none⟩=some (.int .i64 y1.num)∧W.cell? ⟨b,o+6+4,none⟩=some (.int .i64 y1.den)∧W.cell? ⟨b,o+6+5,none⟩=some (.slice a1 y1.subs.length d1)) (.take 0 (.take 1 (.take 2 (.take 3 (.take 4 (.take 6 (.take 7 (.take 10 (.two 5 8 (.one 8 (.one 9 (.one 11 .done))) (.one 5 (.one 9 (.one 11 .done)))))))))))) zBm (by kernel_rfl) (fun _ _ _ _ _ h=>h) (SW.o _ HDW.o.drew) ?_)
    iterate 8 (refine zEf (v:=?_) rfl (by rfl) ?_ ?_;rotate_left;(focus (intro wq hSw;(try dsimp only at hSw);go_simp;(try rw [if_neg (by first|omega|(simp;omega))]);(try with_reducible rfl)));(try simp only [gA,gB,gC,Act.put,gD,gE,gF]))
    have HDD:=lH HDW.o.drew;have HMD:=lH (HMW.o.below ((Mod.refl [] _).drew.below));generalize w1.drew=W1 at *;have h1s:w.heap.size<W1.heap.size:=Nat.lt_of_lt_of_le lb HDD.o.size;refine zH ?_ ?_
    ·skip
     (refine zAj rfl (by rfl) (fun K hK=>?_);go_simp)
     refine (zCx bd ba bc _ (zAg.1 (HBD.o.mod HDD.o)).1 (by omega)).mono ?_;rintro e w2 ⟨v2,rfl,ho2,hb2⟩
     (try go_simp)
     have HD2:=lH (HDD.o.trans (Mod.of hb2));refine hK.out _ _ (SW.o _ HD2.o) ?_;clear hK K;(try simp only [gA,gB,gC,Act.put,gD,gE,gF])
     (refine zAj rfl (by rfl) (fun K hK=>?_);go_simp)
     have hA3:=zAa w2 (.cells #[.string x.name] 9);have hrow3:IsRow (w2.alloc (.cells #[.string x.name] 9)) 1 (.slice (some ⟨w2.heap.size,0,none⟩) 1 1) 1 [.string x.name]:=zBa (zAi (B:=w2.heap.size) (l:=[x.name]) (zDf w2 w2.heap.size (Nat.le_refl _) (.string x.name) 9));have ho3:=ho2.alloc (.cells #[.string x.name] 9);have HD3:=lH (HD2.o.trans (Mod.of hA3));have hB3:Bw W1 (w2.alloc (.cells #[.string x.name] 9)):=hb2.trans (hA3.mono hb2.size)
     refine hK.out _ _ (SW.o _ HD3.o) ?_;clear hK K;(try simp only [gA,gB,gC,Act.put,gD,gE,gF]);generalize hz:w2.heap.size=z at *;generalize World.alloc w2 _=w3 at *;have hbase:W1.heap.size≤w3.heap.size:=hB3.size;have hW1z:w.heap.size<W1.heap.size:=h1s;refine zAj rfl (by rfl) (fun K hK=>?_);refine zCg _ _ 50 rfl W1.heap.size 9 i0 _ 1 16 Tryz.underlying50 hi hz0 hz1 hz2 rfl (by decide) v2 bd.length (bd.map .string) rfl ho3 _ 1 ([.string x.name]) rfl hrow3 (zBi [x.name]) (by unfold maxLen;omega) (by omega) hbase ?_
     intro v4 w4 ho4 hg4;have hB4:Bw W1 w4:=hB3.grown hg4 hbase (fun k hk=>(ho3.lt k hk).1);have HD4:=lH (HDD.o.trans (Mod.of hB4));have HM4:=lH (HMD.o.below hB4);refine hK.out _ _ (SW.o _ HD4.o) ?_;clear hK K;(try simp only [gA,gB,gC,Act.put,gD,gE,gF]);have ho5:=ho4;rw [show bd.map Value.string++[.string x.name]=(bd++[x.name]).map Value.string by simp,show bd.length+1=(bd++[x.name]).length by simp] at ho5;have hbl5:(bd++[x.name]).length≤bd.length+2:=by simp
     clear ho4 hg4 hB4 hrow3;generalize (bd++[x.name])=bd1 at *;obtain ⟨a5,c5',rfl⟩:=zAk ho5;have HS5:Hid (Reads w4 [m] (strsT bd1) (.slice a5 bd1.length c5')):=lH (zAg.2 ⟨zAi ho5,fun _ k hk=>by have:=(ho5.lt k hk).1;simp;omega⟩);clear ho5;have HC5:=lH (HY.o y1 bd1 a1 a5 d1 c5' (n+nodesN y0) (addF (f) (freeN y0 bd)) _ hm1 (hyr1.out.mod HD4.o) HS5.o hbl5 HM4.o (by omega))
     (refine zAj rfl (by rfl) (fun K hK=>?_);go_simp)
     refine HC5.o.mono ?_;rintro e w6 ⟨rfl,hm6,hd6⟩
     (try go_simp)
     have HD6:=lH (HD4.o.trans hd6);have HM6:=lH hm6;refine hK.out _ _ (SW.o _ HD6.o) ?_;clear hK K;(try simp only [gA,gB,gC,Act.put,gD,gE,gF]);refine zCd ?_;refine NoPanic.normal ?_;go_wp2;go_meet
     case rel=>exact ⟨lH (by rw [HT.o];exact HM6.o.mono (by omega)),lH (HD.o.trans HD6.o)⟩
    ·skip
     (refine zAj rfl (by rfl) (fun K hK=>?_);go_simp)
     have hA2:=zAa W1 (.cells #[.string x.name] 9);have hrow2:IsRow (W1.alloc (.cells #[.string x.name] 9)) 1 (.slice (some ⟨W1.heap.size,0,none⟩) 1 1) 1 [.string x.name]:=zBa (zAi (B:=W1.heap.size) (l:=[x.name]) (zDf W1 W1.heap.size (Nat.le_refl _) (.string x.name) 9));have HD2:=lH (HDD.o.trans (Mod.of hA2));refine hK.out _ _ (SW.o _ HD2.o) ?_;clear hK K;(try simp only [gA,gB,gC,Act.put,gD,gE,gF]);have hzq:W1.heap.size≤(W1.alloc (.cells #[.string x.name] 9)).heap.size:=hA2.size;have hHM2:=HMD.o.below hA2
     generalize W1.heap.size=z at *;generalize World.alloc W1 _=W2 at *
     (refine zAj rfl (by rfl) (fun K hK=>?_);go_simp)
     refine (zCx bd ba bc _ (zAg.1 (HBD.o.mod HD2.o)).1 (by omega)).mono ?_;rintro e w3 ⟨v2,rfl,ho3,hB3⟩
     (try go_simp)
     have HD3:=lH (HD2.o.trans (Mod.of hB3));refine hK.out _ _ (SW.o _ HD3.o) ?_;clear hK K;(try simp only [gA,gB,gC,Act.put,gD,gE,gF]);have hrow3:=hrow2.below hB3;have hbase:W2.heap.size≤w3.heap.size:=hB3.size;have hW1z:w.heap.size<W2.heap.size:=by omega
     refine zAj rfl (by rfl) (fun K hK=>?_);refine zCg _ _ 50 rfl W2.heap.size 9 i0 _ 1 16 Tryz.underlying50 hi hz0 hz1 hz2 rfl (by decide) v2 bd.length (bd.map .string) rfl ho3 _ 1 ([.string x.name]) rfl hrow3 (zBi [x.name]) (by unfold maxLen;omega) (by omega) hbase ?_;intro v4 w4 ho4 hg4;have hB4:Bw W2 w4:=hB3.grown hg4 hbase (fun k hk=>(ho3.lt k hk).1);have HD4:=lH (HD2.o.trans (Mod.of hB4));have HM4:=lH (hHM2.below hB4);refine hK.out _ _ (SW.o _ HD4.o) ?_;clear hK K;(try simp only [gA,gB,gC,Act.put,gD,gE,gF])
     have ho5:=ho4;rw [show bd.map Value.string++[.string x.name]=(bd++[x.name]).map Value.string by simp,show bd.length+1=(bd++[x.name]).length by simp] at ho5;have hbl5:(bd++[x.name]).length≤bd.length+2:=by simp
     clear ho4 hg4 hB4 hrow3;generalize (bd++[x.name])=bd1 at *;obtain ⟨a5,c5',rfl⟩:=zAk ho5;have HS5:Hid (Reads w4 [m] (strsT bd1) (.slice a5 bd1.length c5')):=lH (zAg.2 ⟨zAi ho5,fun _ k hk=>by have:=(ho5.lt k hk).1;simp;omega⟩);clear ho5;have HC5:=lH (HY.o y1 bd1 a1 a5 d1 c5' (n+nodesN y0) (addF (f) (freeN y0 bd)) _ hm1 (hyr1.out.mod HD4.o) HS5.o hbl5 HM4.o (by omega))
     (refine zAj rfl (by rfl) (fun K hK=>?_);go_simp)
     refine HC5.o.mono ?_;rintro e w6 ⟨rfl,hm6,hd6⟩
     (try go_simp)
     have HD6:=lH (HD4.o.trans hd6);have HM6:=lH hm6;refine hK.out _ _ (SW.o _ HD6.o) ?_;clear hK K;(try simp only [gA,gB,gC,Act.put,gD,gE,gF]);refine zCd ?_;refine NoPanic.normal ?_;go_wp2;go_meet
     case rel=>exact ⟨lH (by rw [HT.o];exact HM6.o.mono (by omega)),lH (HD.o.trans HD6.o)⟩
   case rest=>
    obtain ⟨hm,hd⟩:=hcut;go_wp2
    go_end0
    exact ⟨rfl,hm.out,hd.out⟩
  by_cases hk13:x.kind=13
  ·have q13:(x.kind==13)=true:=beq_iff_eq.2 hk13
   have q6:(x.kind==6)=false:=beq_eq_false_iff_ne.2 hk6;have q8:(x.kind==8)=false:=beq_eq_false_iff_ne.2 hk8;have hl:=HV.o.caseL hk13
   obtain ⟨b,o,rfl⟩:∃b o,xa=some ⟨b,o,none⟩:=by
    obtain ⟨y,hy⟩:∃y,x.subs[0]?=some y:=⟨_,List.getElem?_eq_getElem (by omega)⟩;obtain ⟨b,o,_,_,e,_⟩:=zAx HR.o hy;exact ⟨b,o,e⟩
   have hbm:=zNt HR.o (by omega);obtain ⟨y0,hy0⟩:∃y,x.subs[0]?=some y:=⟨_,List.getElem?_eq_getElem (by omega)⟩;have hm0:=List.mem_of_getElem? hy0;obtain ⟨y1,hy1⟩:∃y,x.subs[1]?=some y:=⟨_,List.getElem?_eq_getElem (by omega)⟩;have hm1:=List.mem_of_getElem? hy1;obtain ⟨y2,hy2⟩:∃y,x.subs[2]?=some y:=⟨_,List.getElem?_eq_getElem (by omega)⟩;have hm2:=List.mem_of_getElem? hy2
   have HT:Hid (addF f (freeN x bd)=addF (addF (addF f (freeN y0 bd)) (freeN y1 bd)) (freeN y2 (bd++[x.name,x.more]))):=by
    show _=_
    rw [HF.o,zDu bd hy0,zDu bd hy1,zDu bd hy2,zFd (j:=2+1) bd (by omega)];simp [boundAt,hk13,zNs]
   have hsum:nodesN y0+nodesN y1+nodesN y2+1≤nodesN x:=by
    rw [hsl]
    have e:nodesL x.subs=nodesN y0+nodesN y1+nodesN y2:=by
     have e0:x.subs=[y0,y1,y2]:=List.ext_getElem? (fun q=>by
      match q with
      | 0=>rw [hy0];rfl
      | 1=>rw [hy1];rfl
      | 2=>rw [hy2];rfl
      | q+3=>rw [List.getElem?_eq_none (by omega)];simp)
     rw [e0];simp [nodesL];try omega
    omega
   have hl0:0<x.subs.length:=by omega
   have hl1:1<x.subs.length:=by omega
   have hl2:2<x.subs.length:=by omega
   have hd0:decide ((0:Int)<(x.subs.length:Int))=true:=decide_eq_true (by omega);have hi0:(0:Int)<(x.subs.length:Int):=by omega
   have hd1:decide ((1:Int)<(x.subs.length:Int))=true:=decide_eq_true (by omega);have hi1:(1:Int)<(x.subs.length:Int):=by omega
   have hd2:decide ((2:Int)<(x.subs.length:Int))=true:=decide_eq_true (by omega);have hi2:(2:Int)<(x.subs.length:Int):=by omega
   clear hl hk13 hsl HF;have c0:=HB.o.cell (i:=0) (v:=.int .i64 x.kind) rfl;have c1:=HB.o.cell (i:=1) (v:=.string x.name) rfl;have c2:=HB.o.cell (i:=2) (v:=.string x.more) rfl;have c5:=HB.o.cell (i:=5) (v:=.slice (some ⟨b,o,none⟩) x.subs.length xc) rfl;have lb:=HB.o.lt;obtain ⟨_,_,a0,d0,e,hbl,p00,p01,p02,p03,p04,p05,-,-,hyr0⟩:=zAx HR.o hy0
   cases e
   simp only [Nat.zero_mul,Nat.add_zero] at p00 p01 p02 p03 p04 p05
   obtain ⟨_,_,a1,d1,e,hbl,p10,p11,p12,p13,p14,p15,-,-,hyr1⟩:=zAx HR.o hy1
   cases e
   simp only [Nat.one_mul] at p10 p11 p12 p13 p14 p15
   obtain ⟨_,_,a2,d2,e,hbl,p20,p21,p22,p23,p24,p25,-,-,hyr2⟩:=zAx HR.o hy2
   cases e
   simp only [Nat.reduceMul] at p20 p21 p22 p23 p24 p25
   obtain ⟨i0,hi,hz0,hz1,hz2⟩:=info_parts zGh
   go_enter Tryz.func187,Tryz.ntmps187
   have HC0:=lH (HY.o y0 bd a0 ba d0 bc (n) (f) _ hm0 hyr0.out HBD.o (by omega) HM.o (by omega));go_wp2_with (fail)
   refine HC0.o.mono ?_;rintro e w1 ⟨rfl,hm,hd⟩;generalize hW0:w.alloc (.cells (xA x (some ⟨b,o,none⟩) xc) 60)=W0 at *;clear hW0;have HD1:=lH hd;have HM1:=lH hm;clear hm hd HC0;have e1:=HD1.o.cell c1 (by simp;omega);have e2:=HD1.o.cell c2 (by simp;omega);have e5:=HD1.o.cell c5 (by simp;omega);have e6:=HD1.o.cell (HB.o.cell (i:=0) (v:=.int .i64 x.kind) rfl) (by simp;omega);have el:w.heap.size<w1.heap.size:=Nat.lt_of_lt_of_le lb HD1.o.size;have eb:b<w1.heap.size:=Nat.lt_of_lt_of_le hbl HD1.o.size
   have z0:=HD1.o.cell p10 hbm;have z1:=HD1.o.cell p11 hbm;have z2:=HD1.o.cell p12 hbm;have z3:=HD1.o.cell p13 hbm;have z4:=HD1.o.cell p14 hbm;have z5:=HD1.o.cell p15 hbm;have HC1:=lH (HY.o y1 bd a1 ba d1 bc (n+nodesN y0) (addF (f) (freeN y0 bd)) _ hm1 (hyr1.out.mod HD1.o) (HBD.o.mod HD1.o) (by omega) HM1.o (by omega));go_wp2_with (fail)
   refine HC1.o.mono ?_;rintro e w2 ⟨rfl,hm,hd⟩;have HD2:=lH (HD1.o.trans hd);have HM2:=lH hm;clear hm hd HC1;have e1:=HD2.o.cell c1 (by simp;omega);have e2:=HD2.o.cell c2 (by simp;omega);have e5:=HD2.o.cell c5 (by simp;omega);have e6:=HD2.o.cell (HB.o.cell (i:=0) (v:=.int .i64 x.kind) rfl) (by simp;omega);have el:w.heap.size<w2.heap.size:=Nat.lt_of_lt_of_le lb HD2.o.size;have eb:b<w2.heap.size:=Nat.lt_of_lt_of_le hbl HD2.o.size;have z0:=HD2.o.cell p20 hbm;have z1:=HD2.o.cell p21 hbm
   have z2:=HD2.o.cell p22 hbm;have z3:=HD2.o.cell p23 hbm;have z4:=HD2.o.cell p24 hbm;have z5:=HD2.o.cell p25 hbm;go_upto_region 13 with (fail)
   have HDW:=HD2;have HMW:=HM2
   have SW:Hid (∀W:World,Mod [m] W0 W→(b<W.heap.size∧W.cell? ⟨w.heap.size,1,none⟩=some (.string x.name)∧W.cell? ⟨w.heap.size,2,none⟩=some (.string x.more)∧W.cell? ⟨w.heap.size,5,none⟩=some (.slice (some ⟨b,o,none⟩) x.subs.length xc)∧W.cell? ⟨b,o+12,none⟩=some (.int .i64 y2.kind)∧W.cell? ⟨b,o+12+1,none⟩=some (.string y2.name)∧W.cell? ⟨b,o+12+2,none⟩=some (.string y2.more)∧W.cell? ⟨b,o+12+3,none⟩=some (.int .i64 y2.num)∧W.cell? ⟨b,o+12+4,none⟩=some (.int .i64 y2.den)∧W.cell? ⟨b,o+12+5,none⟩=some (.slice a2 y2.subs.length d2))):=lH (fun W hW=>⟨Nat.lt_of_lt_of_le hbl hW.size,hW.cell c1 (by simp;omega),hW.cell c2 (by simp;omega),hW.cell c5 (by simp;omega),hW.cell p20 hbm,hW.cell p21 hbm,hW.cell p22 hbm,hW.cell p23 hbm,hW.cell p24 hbm,hW.cell p25 hbm⟩)
   go_cut [] from 71 to 84 (fun wx=>Hid (IsMapS Tryz.prog 9 wx m (n+nodesN x) (addF f (freeN x bd)))∧Hid (Mod [m] w wx))
   case first=>
    refine wp_region_noPanic (zCl (fun W:World=>b<W.heap.size∧W.cell? ⟨w.heap.size,1,none⟩=some (.string x.name)∧W.cell? ⟨w.heap.size,2,none⟩=some (.string x.more)∧W.cell? ⟨w.heap.size,5,none⟩=some (.slice (some ⟨b,o,none⟩) x.subs.length xc)∧W.cell? ⟨b,o+12,none⟩=some (.int .i64 y2.kind)∧W.cell? ⟨b,o+12+1,none⟩=some (.string y2.name)∧W.cell? ⟨b,o+12+2,none⟩=some (.string y2.more)∧W.cell? ⟨b,o+12+3,none⟩=some (.int .i64 y2.num)∧W.cell? ⟨b,o+12+4,none⟩=some (.int .i64 y2.den)∧W.cell? ⟨b,o+12+5,none⟩=some (.slice a2 y2.subs.length d2)) (.take 0 (.take 1 (.take 2 (.take 3 (.take 4 (.take 6 (.take 7 (.take 8 (.take 9 (.take 12 (.two 5 10 (.one 10 (.one 11 (.one 13 .done))) (.one 5 (.one 11 (.one 13 .done)))))))))))))) zBm (by kernel_rfl) (fun _ _ _ _ _ h=>h) (SW.o _ HDW.o.drew) ?_)
    iterate 10 (refine zEf (v:=?_) rfl (by rfl) ?_ ?_;rotate_left;(focus (intro wq hSw;(try dsimp only at hSw);go_simp;(try rw [if_neg (by first|omega|(simp;omega))]);(try with_reducible rfl)));(try simp only [gA,gB,gC,Act.put,gD,gE,gF]))
    have HDD:=lH HDW.o.drew;have HMD:=lH (HMW.o.below ((Mod.refl [] _).drew.below));generalize w2.drew=W1 at *;have h1s:w.heap.size<W1.heap.size:=Nat.lt_of_lt_of_le lb HDD.o.size;refine zH ?_ ?_
    ·skip
     (refine zAj rfl (by rfl) (fun K hK=>?_);go_simp)
     refine (zCx bd ba bc _ (zAg.1 (HBD.o.mod HDD.o)).1 (by omega)).mono ?_;rintro e w2 ⟨v2,rfl,ho2,hb2⟩
     (try go_simp)
     have HD2:=lH (HDD.o.trans (Mod.of hb2));refine hK.out _ _ (SW.o _ HD2.o) ?_;clear hK K;(try simp only [gA,gB,gC,Act.put,gD,gE,gF])
     (refine zAj rfl (by rfl) (fun K hK=>?_);go_simp)
     have hA3:=zAa w2 (.cells #[.string x.name,.string x.more] 9);have hrow3:IsRow (w2.alloc (.cells #[.string x.name,.string x.more] 9)) 1 (.slice (some ⟨w2.heap.size,0,none⟩) 2 2) 2 [.string x.name,.string x.more]:=zBa (zAi (B:=w2.heap.size) (l:=[x.name,x.more]) (zRy w2 w2.heap.size (Nat.le_refl _) 9 (.string x.name) (.string x.more)));have ho3:=ho2.alloc (.cells #[.string x.name,.string x.more] 9);have HD3:=lH (HD2.o.trans (Mod.of hA3))
     have hB3:Bw W1 (w2.alloc (.cells #[.string x.name,.string x.more] 9)):=hb2.trans (hA3.mono hb2.size);refine hK.out _ _ (SW.o _ HD3.o) ?_;clear hK K;(try simp only [gA,gB,gC,Act.put,gD,gE,gF]);generalize hz:w2.heap.size=z at *;generalize World.alloc w2 _=w3 at *;have hbase:W1.heap.size≤w3.heap.size:=hB3.size;have hW1z:w.heap.size<W1.heap.size:=h1s;refine zAj rfl (by rfl) (fun K hK=>?_)
     refine zCg _ _ 50 rfl W1.heap.size 9 i0 _ 1 16 Tryz.underlying50 hi hz0 hz1 hz2 rfl (by decide) v2 bd.length (bd.map .string) rfl ho3 _ 2 ([.string x.name,.string x.more]) rfl hrow3 (zBi [x.name,x.more]) (by unfold maxLen;omega) (by omega) hbase ?_;intro v4 w4 ho4 hg4;have hB4:Bw W1 w4:=hB3.grown hg4 hbase (fun k hk=>(ho3.lt k hk).1);have HD4:=lH (HDD.o.trans (Mod.of hB4));have HM4:=lH (HMD.o.below hB4);refine hK.out _ _ (SW.o _ HD4.o) ?_;clear hK K;(try simp only [gA,gB,gC,Act.put,gD,gE,gF]);have ho5:=ho4
     rw [show bd.map Value.string++[.string x.name,.string x.more]=(bd++[x.name,x.more]).map Value.string by simp,show bd.length+2=(bd++[x.name,x.more]).length by simp] at ho5;have hbl5:(bd++[x.name,x.more]).length≤bd.length+2:=by simp
     clear ho4 hg4 hB4 hrow3;generalize (bd++[x.name,x.more])=bd1 at *;obtain ⟨a5,c5',rfl⟩:=zAk ho5;have HS5:Hid (Reads w4 [m] (strsT bd1) (.slice a5 bd1.length c5')):=lH (zAg.2 ⟨zAi ho5,fun _ k hk=>by have:=(ho5.lt k hk).1;simp;omega⟩);clear ho5;have HC5:=lH (HY.o y2 bd1 a2 a5 d2 c5' (n+nodesN y0+nodesN y1) (addF (addF (f) (freeN y0 bd)) (freeN y1 bd)) _ hm2 (hyr2.out.mod HD4.o) HS5.o hbl5 HM4.o (by omega))
     (refine zAj rfl (by rfl) (fun K hK=>?_);go_simp)
     refine HC5.o.mono ?_;rintro e w6 ⟨rfl,hm6,hd6⟩
     (try go_simp)
     have HD6:=lH (HD4.o.trans hd6);have HM6:=lH hm6;refine hK.out _ _ (SW.o _ HD6.o) ?_;clear hK K;(try simp only [gA,gB,gC,Act.put,gD,gE,gF]);refine zCd ?_;refine NoPanic.normal ?_;go_wp2;go_meet
     case rel=>exact ⟨lH (by rw [HT.o];exact HM6.o.mono (by omega)),lH (HD.o.trans HD6.o)⟩
    ·skip
     (refine zAj rfl (by rfl) (fun K hK=>?_);go_simp)
     have hA2:=zAa W1 (.cells #[.string x.name,.string x.more] 9);have hrow2:IsRow (W1.alloc (.cells #[.string x.name,.string x.more] 9)) 1 (.slice (some ⟨W1.heap.size,0,none⟩) 2 2) 2 [.string x.name,.string x.more]:=zBa (zAi (B:=W1.heap.size) (l:=[x.name,x.more]) (zRy W1 W1.heap.size (Nat.le_refl _) 9 (.string x.name) (.string x.more)));have HD2:=lH (HDD.o.trans (Mod.of hA2));refine hK.out _ _ (SW.o _ HD2.o) ?_;clear hK K;(try simp only [gA,gB,gC,Act.put,gD,gE,gF])
     have hzq:W1.heap.size≤(W1.alloc (.cells #[.string x.name,.string x.more] 9)).heap.size:=hA2.size;have hHM2:=HMD.o.below hA2;generalize W1.heap.size=z at *;generalize World.alloc W1 _=W2 at *
     (refine zAj rfl (by rfl) (fun K hK=>?_);go_simp)
     refine (zCx bd ba bc _ (zAg.1 (HBD.o.mod HD2.o)).1 (by omega)).mono ?_;rintro e w3 ⟨v2,rfl,ho3,hB3⟩
     (try go_simp)
     have HD3:=lH (HD2.o.trans (Mod.of hB3));refine hK.out _ _ (SW.o _ HD3.o) ?_;clear hK K;(try simp only [gA,gB,gC,Act.put,gD,gE,gF]);have hrow3:=hrow2.below hB3;have hbase:W2.heap.size≤w3.heap.size:=hB3.size;have hW1z:w.heap.size<W2.heap.size:=by omega
     refine zAj rfl (by rfl) (fun K hK=>?_);refine zCg _ _ 50 rfl W2.heap.size 9 i0 _ 1 16 Tryz.underlying50 hi hz0 hz1 hz2 rfl (by decide) v2 bd.length (bd.map .string) rfl ho3 _ 2 ([.string x.name,.string x.more]) rfl hrow3 (zBi [x.name,x.more]) (by unfold maxLen;omega) (by omega) hbase ?_;intro v4 w4 ho4 hg4;have hB4:Bw W2 w4:=hB3.grown hg4 hbase (fun k hk=>(ho3.lt k hk).1);have HD4:=lH (HD2.o.trans (Mod.of hB4));have HM4:=lH (hHM2.below hB4)
     refine hK.out _ _ (SW.o _ HD4.o) ?_;clear hK K;(try simp only [gA,gB,gC,Act.put,gD,gE,gF]);have ho5:=ho4;rw [show bd.map Value.string++[.string x.name,.string x.more]=(bd++[x.name,x.more]).map Value.string by simp,show bd.length+2=(bd++[x.name,x.more]).length by simp] at ho5;have hbl5:(bd++[x.name,x.more]).length≤bd.length+2:=by simp
     clear ho4 hg4 hB4 hrow3;generalize (bd++[x.name,x.more])=bd1 at *;obtain ⟨a5,c5',rfl⟩:=zAk ho5;have HS5:Hid (Reads w4 [m] (strsT bd1) (.slice a5 bd1.length c5')):=lH (zAg.2 ⟨zAi ho5,fun _ k hk=>by have:=(ho5.lt k hk).1;simp;omega⟩);clear ho5;have HC5:=lH (HY.o y2 bd1 a2 a5 d2 c5' (n+nodesN y0+nodesN y1) (addF (addF (f) (freeN y0 bd)) (freeN y1 bd)) _ hm2 (hyr2.out.mod HD4.o) HS5.o hbl5 HM4.o (by omega))
     (refine zAj rfl (by rfl) (fun K hK=>?_);go_simp)
     refine HC5.o.mono ?_;rintro e w6 ⟨rfl,hm6,hd6⟩
     (try go_simp)
     have HD6:=lH (HD4.o.trans hd6);have HM6:=lH hm6;refine hK.out _ _ (SW.o _ HD6.o) ?_;clear hK K;(try simp only [gA,gB,gC,Act.put,gD,gE,gF]);refine zCd ?_;refine NoPanic.normal ?_;go_wp2;go_meet
     case rel=>exact ⟨lH (by rw [HT.o];exact HM6.o.mono (by omega)),lH (HD.o.trans HD6.o)⟩
   case rest=>
    obtain ⟨hm,hd⟩:=hcut;go_wp2
    go_end0
    exact ⟨rfl,hm.out,hd.out⟩
  -- GEN2
  have q6:(x.kind==6)=false:=beq_eq_false_iff_ne.2 hk6;have q8:(x.kind==8)=false:=beq_eq_false_iff_ne.2 hk8;have q13:(x.kind==13)=false:=beq_eq_false_iff_ne.2 hk13;have HBA:Hid (∀k,boundAt x k=[]):=lH (fun k=>by unfold boundAt;rw [if_neg hk6,if_neg (fun h=>hk8 h.1),if_neg (fun h=>hk13 h.1)]);clear hk6 hk8 hk13;have c0:=HB.o.cell (i:=0) (v:=.int .i64 x.kind) rfl;have lb:=HB.o.lt;have HZ:Hid (addF f (freeN x bd)=addF f (freeP x bd 0)):=by show _=_;rw [HF.o]
  clear HF
  go_enter Tryz.func187,Tryz.ntmps187
  go_wp2;generalize hW0:w.alloc (.cells (xA x xa xc) 60)=W0 at *;clear hW0
  go_loopw [88] (fun iv wr=>∃(k n':Nat) (g:List UInt8→Option Value),k≤x.subs.length∧iv=.int .i64 k∧Hid (IsMapS Tryz.prog 9 wr m n' g)∧Hid (addF f (freeN x bd)=addF g (freeP x bd k))∧Hid (n'+nodesL (x.subs.drop k)+1≤n+nodesN x)∧Hid (Mod [m] W0 wr)) (fun iv _=>x.subs.length - (intOf iv).toNat)
  case atStart=>exact ⟨0,n,f,Nat.zero_le _,rfl,HM,HZ,by show _≤_;rw [List.drop_zero];omega,lH (Mod.refl _ _)⟩
  case round=>
   obtain ⟨k,n',g,hk',rfl,HM',HZ',HC,HMD⟩:=hrel;have hbox:=HB.o.mod HMD.o (by simp;omega);have c5:=hbox.cell (i:=5) (v:=.slice xa x.subs.length xc) rfl;have lb:=hbox.lt
   by_cases hkl:k<x.subs.length
   ·have hd:decide ((k:Int)<(x.subs.length:Int))=true:=decide_eq_true (by omega)
    obtain ⟨y,hy⟩:∃y,x.subs[k]?=some y:=⟨_,List.getElem?_eq_getElem hkl⟩;have HRW:=lH (HR.o.mod HMD.o);obtain ⟨yb,yo,ya,yc,rfl,hybl,y0,y1,y2,y3,y4,y5,hyc1,hyc2,hyr⟩:=zAx HRW.o hy;have hym:=List.mem_of_getElem? hy
    have hdl:nodesL (x.subs.drop k)=nodesN y+nodesL (x.subs.drop (k+1)):=by
     obtain ⟨hj,e⟩:=List.getElem?_eq_some_iff.1 hy;rw [List.drop_eq_getElem_cons hj,e,nodesL]
    have HCC:=HC.o;have HZ2:Hid (addF f (freeN x bd)=addF (addF g (freeN y bd)) (freeP x bd (k+1))):=by show _=_;rw [HZ'.o,zDu bd hy,HBA.o k,List.append_nil,zNs]
    have HC2:Hid (n'+nodesN y+nodesL (x.subs.drop (k+1))+1≤n+nodesN x):=by show _≤_;omega
    have hn2:n'+nodesN y≤40000:=by omega
    have hA2:=zAa wr (.cells (xA y ya yc) 60);have HMD2:=lH (HMD.o.trans (Mod.of hA2));have HCALL:=lH (HY.o y bd ya ba yc bc n' g _ hym (hyr.out.below hA2) (HBD.o.mod HMD2.o) (by omega) (HM'.o.below hA2) hn2);clear HZ' HC HCC hdl hym HM' HMD HRW;go_wp2_with (fail)
    refine HCALL.o.mono ?_;rintro e w4 ⟨rfl,hm4,hd4⟩;have HM4:=lH hm4;have HD4:=lH (HMD2.o.trans hd4);clear hm4 hd4 HMD2 HCALL hA2;go_wp2;go_roundw
    case rel=>exact ⟨k+1,n'+nodesN y,_,by omega,by go_num,HM4,HZ2,HC2,HD4⟩
    case measure=>simp [intOf];omega
   ·have hd:decide ((k:Int)<(x.subs.length:Int))=false:=decide_eq_false (by omega)
    have HT:Hid (addF f (freeN x bd)=g):=by show _=_;rw [HZ'.o,zFd bd (by omega)];rfl
    have HCC:=HC.o;go_wp2
    go_end0
    exact ⟨rfl,by show IsMapS _ _ _ _ _ _;exact (by rw [HT.o];exact HM'.o.mono (by omega)),HD.o.trans HMD.o⟩
end Go.Proofs.YtfkjfdbjhlmjcaaGreatDoor
