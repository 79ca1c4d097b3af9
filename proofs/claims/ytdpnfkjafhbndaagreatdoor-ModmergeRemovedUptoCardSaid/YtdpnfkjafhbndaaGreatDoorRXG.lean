/- exprmerge.Conflicts and Clean; the reference's Conflicts of an expression. The reference's Conflicts of an expression. Conflicts of a module in memory; what modmerge.conflicts builds. modmerge.conflicts, Conflicts, Clean. -/
import Derived.Test.YtdpnfkjafhbndaaGreatDoorRXF
import Derived.Test.YtdpnfkjafhbndaaGreatDoorRG5
import Derived.Test.YtdpnfkjafhbndaaGreatDoorRR7
import Derived.Maps.OwnSet
namespace Go.Proofs.YtdpnfkjafhbndaaGreatDoor
open Go.RowKit Go.Shelf
attribute [local go_sem] Oper.semAt_some
def CfI (w:World) (n k:Nat) (W:World):Prop:=CBox W (w.heap.size + 1) 3 #[.int .i64 k]∧Bw w W∧n≤W.heap.size
theorem three_new (w:World) (t u:TypeId) (xs ys:Array Value):CBox (((w.alloc (.cells xs t)).alloc (.cells ys u)).alloc (.cells xs t)) (w.heap.size + 1) u ys∧CBox (((w.alloc (.cells xs t)).alloc (.cells ys u)).alloc (.cells xs t)) (w.heap.size + 1 + 1) t xs ∧
  Bw w (((w.alloc (.cells xs t)).alloc (.cells ys u)).alloc (.cells xs t))∧(((w.alloc (.cells xs t)).alloc (.cells ys u)).alloc (.cells xs t)).heap.size = w.heap.size + 3:=by
 refine ⟨?_,?_,qtrans (qtrans (qalloc _ _) (qalloc _ _)) (qalloc _ _),by simp only [World.size_alloc]⟩
 ·have:=(CBox.new (w.alloc (.cells xs t)) u ys).alloc (.cells xs t)
  rwa [World.size_alloc] at this
 ·have:=CBox.new ((w.alloc (.cells xs t)).alloc (.cells ys u)) t xs
  rwa [World.size_alloc,World.size_alloc] at this
set_option maxRecDepth 100000 in
set_option maxHeartbeats 2000000 in
theorem xConflicts_any (x:Ex) (a:Option Addr) (c:Nat) (w:World) (hr:Reads w [] (subsT x.subs) (.slice a x.subs.length c)) (hN:nodesN x≤4000000) :
  Calls Tryz.prog 132 #[exV x a c] w fun e w' => e = .returned (.int .i64 (confX x))∧Bw w w':=by
 have HNo:=lH (fun w => xconfl_any x a c w);have HR:Hid (Reads w [w.heap.size + 1] (subsT x.subs) (.slice a x.subs.length c)):=hr.more (k:=w.heap.size + 1) (by omega);have hcn:=conf_nodes x;unfold exV at *;clear hr;refine (callsIn_wide (n:=5)).1 ?_;refine callsIn_of_wp_marks Tryz.func132 rfl trivial ?_ rfl;simp only [Tryz.ntmps132,List.size_toArray,List.length_cons,List.length_nil,Nat.reduceAdd,Nat.reduceSub,Array.replicate_succ,Array.replicate_zero,List.push_toArray,List.append_toArray,List.nil_append,List.cons_append]
 gi_wp2_with (refine ⟨trivial,?_⟩;gi_at_call 187;refine (callsIn_wide.2 (HNo.out _)).mono ?_;rintro e w' ⟨rfl,rfl⟩)
 obtain ⟨g1,g2,g3,g4⟩:=three_new w 66 3 (xA x a c) #[.int .i64 0];generalize ((w.alloc (.cells (xA x a c) 66)).alloc (.cells #[.int .i64 0] 3)).alloc (.cells (xA x a c) 66) = W0 at *;have hI0:CfI w W0.heap.size 0 W0:=⟨g1,g3,Nat.le_refl _⟩
 refine wp_iterR rfl (by omega) (gf:=228) (lb:=#[.pointer (some ⟨w.heap.size + 1 + 1,0,none⟩)]) rfl trivial (enters_of Tryz.func228 (by kernel_rfl) rfl)
  (xconfl1_iter x a c W0 (w.heap.size + 1 + 1) [w.heap.size + 1] (by intro k hk;simp at hk;omega) g2 (HR.out.below g3) hN)
  (fun _ _ _ h k => h.trans k) (fun W o o' ho hc _ => KpX.putObj W _ o o' ho hc) (qrefl _)
  (by rintro k args W ⟨v,rfl⟩;rfl)
  (CfI w W0.heap.size) (fun _ _ _ => False)
  (fun k A B row ⟨h3,h5,h6⟩ hg hr => ⟨boxG h3 hg hr,belowG h5 (by omega) (Nat.le_refl _) hg hr,Nat.le_trans h6 hg.size⟩)
  (fun co k A B row h hg hr => h)
  (fun A B h k o hk ho hc => h.block k o ho (.inr hc))
  (fun k A B ⟨h3,h5,h6⟩ h => ⟨h.box (by omega) h3,h5.trans ((h.below h6).mono (by omega)),Nat.le_trans h6 h.size⟩)
  (fun co k A B h _ => h)
  hI0
  (fun k a' _ => ∃ v:Value,a' = { tmps:=#[.agg #[.int .i64 x.kind,.string x.name,.string x.more,.int .i64 x.num,.int .i64 x.den,.slice a x.subs.length c],.pointer (some ⟨w.heap.size,0,none⟩),.int .i64 0,.pointer (some ⟨w.heap.size + 1,0,none⟩),.agg #[.int .i64 x.kind,.string x.name,.string x.more,.int .i64 x.num,.int .i64 x.den,.slice a x.subs.length c],.func (.func 228) #[] #[.pointer (some ⟨w.heap.size + 1 + 1,0,none⟩)],v,undef,undef,undef],defers:=[] })
  (fun _ _ _ _ _ _ hs _ _ => hs) ?assign ?body ?done ?stop
 case assign =>
  rintro l k hk args W K hi ⟨v,rfl⟩ hK
  gi_wp2
  exact hK _ _ (KeepsFrom.refl _ _) (KpX.refl _ _) hi ⟨v,by simp⟩
 case body =>
  rintro l k hk a' W ⟨h3,hb,hz⟩ ⟨v,rfl⟩;have c3:=h3.cell (i:=0) (v:=.int .i64 k) rfl;have f3:=h3.frozen 0;have l3:=h3.lt;have hw:IntKind.i64.wrap ((k:Int) + 1) = (k:Int) + 1:=IntWalk.i64_in _ (by omega)
  gi_wp2
  refine ⟨(KeepsOthers.setCell _ _ _).from _,(KpX.refl _ _).set (p:=⟨w.heap.size + 1,0,none⟩) (by simp) _,?_,hb.setCell (p:=⟨w.heap.size + 1,0,none⟩) (by show _≤w.heap.size + 1;omega) _,by simpa [World.setCell] using hz⟩;exact h3.set 0 _
 case done =>
  rintro D W hD ⟨h3,hb,hz⟩ hK;have c3:=h3.cell (i:=0) (v:=.int .i64 (confX x:Nat)) rfl;have l3:=h3.lt
  gi_wp2
  refine ⟨by simp,.inl ⟨_,_,rfl,run_takeDeferred hK,?_⟩⟩;have hB2:Bw w (W.putObj D (.deferred none)):=hb.trans (belowK_b (w:=w) (Nat.le_refl _) W D _ _ (by omega) hK rfl rfl);refine ⟨.int .i64 (confX x:Nat),by simp [results,Tryz.results132,go_sem],?_⟩;exact ⟨rfl,hB2⟩
 case stop =>
  rintro D co k W hD hk h;exact h.elim
def spotT (s:OSpot):List Tree:=[strT s.pack,.leaf (.int .i64 s.kind),.leaf (.int .i64 s.id),.leaf (.int .i64 s.pos)]
def spotsT (l:List OSpot):Tree:=rowT 4 spotT l
def spotA (s:OSpot):Array Value:=#[.string s.pack,.int .i64 s.kind,.int .i64 s.id,.int .i64 s.pos]
theorem infoSpot:(Tryz.prog.info? 54).map (fun i => (i.zero.map (fun z => z.cells.size),i.size,i.bytes)) = some (some 4,4,40):=by kernel_rfl
def namesF (ds:List ODecl):List UInt8→Option Value:=fun x => if ds.any (fun e => decide (e.names.length = 1) && (sAt e.names 0).data.toList == x) then some (.bool true) else none
theorem namesF_one {ds:List ODecl} {d:ODecl} {s:ByteArray} (h:d.names = [s]):namesF (ds ++ [d]) = fun x => if x = s.data.toList then some (.bool true) else namesF ds x:=by
 funext x
 unfold namesF;rw [List.any_append]
 by_cases hx:x = s.data.toList
 ·subst hx
  rw [if_pos rfl,if_pos];rw [Bool.or_eq_true]
  right
  simp [h,sAt]
 ·rw [if_neg hx]
  have:[d].any (fun e => decide (e.names.length = 1) && (sAt e.names 0).data.toList == x) = false:=by
   simp only [List.any_cons,List.any_nil,Bool.or_false,h]
   have:((sAt [s] 0).data.toList == x) = false:=by
    rw [beq_eq_false_iff_ne];exact fun e => hx e.symm
   rw [this,Bool.and_false]
  rw [this,Bool.or_false]
theorem namesF_other {ds:List ODecl} {d:ODecl} (h:d.names.length≠1):namesF (ds ++ [d]) = namesF ds:=by
 funext x
 unfold namesF;rw [List.any_append];have:[d].any (fun e => decide (e.names.length = 1) && (sAt e.names 0).data.toList == x) = false:=by simp [h]
 rw [this,Bool.or_false]
theorem clash_names {ds:List ODecl} {d:ODecl} {s:ByteArray} (h:d.names = [s]):(namesF ds s.data.toList).getD (.bool false) = .bool (clashB ds d):=by
 have:clashB ds d = ds.any fun e => decide (e.names.length = 1) && (sAt e.names 0).data.toList == s.data.toList:=by
  unfold clashB;rw [h]
  have:∀ e:ODecl,sameSs e.names [s] = (decide (e.names.length = 1) && (sAt e.names 0).data.toList == s.data.toList):=by
   intro e;rw [Bool.eq_iff_iff,sameSs_iff,Bool.and_eq_true,decide_eq_true_eq,beq_iff_eq]
   constructor
   ·intro he;rw [he];exact ⟨rfl,rfl⟩
   ·rintro ⟨h1,h2⟩
    obtain ⟨t,ht⟩:=List.length_eq_one_iff.1 h1;rw [ht] at h2 ⊢;have:t = s:=ba_eq h2;rw [this]
  simp only [this]
  simp
 rw [this];unfold namesF
 cases ds.any fun e => decide (e.names.length = 1) && (sAt e.names 0).data.toList == s.data.toList <;> rfl
theorem spotsD_len (label:ByteArray) (prev:List ODecl) (d:ODecl):(spotsD label prev d).length≤confX d.body + 3:=by
 unfold spotsD;simp only [List.length_append,List.length_map,List.length_range]
 have h1:(if d.names.length = 3 then [(⟨label,1,d.id,0⟩:OSpot)] else []).length≤1:=by split <;> simp
 have h2:(if d.doubt then [(⟨label,3,d.id,0⟩:OSpot)] else []).length≤1:=by split <;> simp
 have h3:(if clashB prev d then [(⟨label,4,d.id,0⟩:OSpot)] else []).length≤1:=by split <;> simp
 omega
theorem spotsTo_len {label:ByteArray} {ds:List ODecl} (h:∀ d∈ds,confX d.body≤400):∀ i,i≤ds.length→(spotsTo label ds i).length≤i * 403
 | 0,_ => by rw [spotsTo_zero];exact Nat.zero_le _
 | i + 1,hi => by
  rw [spotsTo_succ,List.length_append];have h1:=spotsTo_len (label:=label) h i (by omega);have h2:=spotsD_len label (ds.take i) (dAt ds i);have h3:=h (dAt ds i) (by rw [dAt_of (List.getElem?_eq_getElem (show i < ds.length by omega))];exact List.getElem_mem _);omega
structure ConfW (w:World) (m:OMod) (au:Option Addr) (cu:Nat) (ad:Option Addr) (cd:Nat) (M n:Nat) (f:List UInt8→Option Value) (v:Value) (L:List OSpot) (wr:World):Prop where
  own:OwnT wr [M] (M + 1) 54 4 spotT v L
  map:IsMapS Tryz.prog 9 wr M n f
  box:CBox wr w.heap.size 52 #[.string m.label,.slice au m.uses.length cu,.slice ad m.decls.length cd]
  bel:Below w.heap.size w wr
  lt:w.heap.size < M
structure ConfD (w:World) (m:OMod) (au:Option Addr) (cu:Nat) (ad:Option Addr) (cd:Nat) (M n:Nat) (f:List UInt8→Option Value) (D:Nat) (A:Array Value) (v:Value) (L:List OSpot) (wr:World):Prop extends ConfW w m au cu ad cd M n f v L wr where
  dbox:CBox wr D 69 A
  dne:∀ b,v.ownBlock = some b→b≠D
  dM:D≠M
section
variable {w:World} {m:OMod} {au:Option Addr} {cu:Nat} {ad:Option Addr} {cd M n D:Nat} {f:List UInt8→Option Value} {A:Array Value} {v:Value} {L:List OSpot} {wr w':World}
theorem ConfW.below (h:ConfW w m au cu ad cd M n f v L wr) (k:Bw wr w'):ConfW w m au cu ad cd M n f v L w':=⟨h.own.below k,h.map.below k,h.box.below k,h.bel.trans (k.mono h.bel.size),h.lt⟩
theorem ConfD.below (h:ConfD w m au cu ad cd M n f D A v L wr) (k:Bw wr w'):ConfD w m au cu ad cd M n f D A v L w':={ h.toConfW.below k with dbox:=h.dbox.below k,dne:=h.dne,dM:=h.dM }
theorem ConfW.open (h:ConfW w m au cu ad cd M n f v L wr) (A:Array Value):ConfD w m au cu ad cd M n f wr.heap.size A v L (wr.alloc (.cells A 69)):=
 { h.below (qalloc wr _) with dbox:=CBox.new _ _ _,dne:=fun _ hb => Nat.ne_of_lt (h.own.lt hb),dM:=(Nat.ne_of_lt h.map.lt).symm }
theorem ConfD.put (h:ConfD w m au cu ad cd M n f D A v L wr) (hn:n≤1000000) {s:ByteArray} (hs:s.size≤40000) :
  ∃ w5,(Instr.mapUpdate 160 (.map (some M)) (.string s) (.bool true)).run Tryz.prog wr = .ok () w5∧ConfW w m au cu ad cd M (n + 1) (fun x => if x = s.data.toList then some (.bool true) else f x) v L w5:=by
 obtain ⟨w5,hput,hm5,hg5⟩:=h.map.put strKeyed Tryz.underlying160 (by unfold maxLen;omega) (key_str s hs) (.bool true);have hmod:Mod [M] wr w5:=mod_of_grown hg5;refine ⟨w5,hput,h.own.mod hmod (fun b hb hx => ?_),hm5,h.box.mod hmod (by have:=h.lt;simp;omega),h.bel.trans (hmod.upto h.bel.size (fun k hk => by have:=h.lt;simp at hk;omega)),h.lt⟩;have:=h.own.ge hb;simp at hx
 omega
theorem wpList_spot {ops:Array Oper} {rest:List Oper} {o:Oper} {a:Act} {Q:Exit→Act→World→Prop} (hgd:o.guard = none) (s x:Operand)
  (ho:o.op = .call { callee:=.builtin .append,args:=#[s,x],argTypes:=#[59,59] }) (hs:a.eval s = v) (sp:OSpot) (hx:a.eval x = .slice (some ⟨wr.heap.size,0,none⟩) 1 1) (h:ConfD w m au cu ad cd M n f D A v L wr) (hL:L.length≤1000000)
  (K:∀ v' w',ConfD w m au cu ad cd M n f D A v' (L ++ [sp]) w'→(∃ a c,v' = .slice a (L ++ [sp]).length c)→wpList Tryz.prog ops Q rest (a.put o.dst v') w'):wpList Tryz.prog ops Q (o :: rest) a (wr.alloc (.cells (spotA sp) 54)):=by
 obtain ⟨i0,z,hi,hz0,hzs,hz1,hz2⟩:=info_parts' infoSpot;have hal:=qalloc wr (.cells (spotA sp) 54);have h2:=h.below hal;obtain ⟨xs,hown,hxr⟩:=h2.own
 have hrow:IsRow (wr.alloc (.cells (spotA sp) 54)) 4 (.slice (some ⟨wr.heap.size,0,none⟩) 1 1) 1 (spotA sp).toList:=⟨rfl,some ⟨wr.heap.size,0,none⟩,1,rfl,Nat.le_refl _,by unfold maxLen;omega,fun _ => ⟨wr.heap.size,0,rfl,by rw [World.size_alloc];omega,fun j q hj => by
  rw [Nat.zero_add];exact (CBox.new wr 54 (spotA sp)).cell (i:=j) (v:=q) (by rw [← Array.getElem?_toList];exact hj)⟩⟩
 refine wpList_append_row hgd s x 59 ho (M + 1) 54 i0 z 4 40 Tryz.underlying59 hi hz0 hz1 hz2 hzs (by decide) v L.length xs hs hown (.slice (some ⟨wr.heap.size,0,none⟩) 1 1) 1 (spotA sp).toList hx hrow
  (by intro q hq;simp only [spotA,List.mem_cons,List.not_mem_nil,or_false] at hq;rcases hq with rfl | rfl | rfl | rfl <;> rfl) (by unfold maxLen;omega) (by omega) (by have:=h.map.lt;have:=hal.size;omega) ?_
 intro v' w' ho' hg' hb';have hge:∀ b,v.ownBlock = some b→M + 1≤b:=fun b hb => h.own.ge hb;have hmod:Mod v.ownBlock.toList (wr.alloc (.cells (spotA sp) 54)) w':=mod_of_grown hg';have hge':∀ b,b∈v.ownBlock.toList→M + 1≤b:=fun b hb => hge b (by simpa using hb);have ho2:=OwnT.grown (f:=spotT) (a:=sp) hown hxr (news:=(spotA sp).toList) (ReadsL.cons (Reads.leaf' _ _ _) (ReadsL.cons (Reads.leaf' _ _ _) (ReadsL.cons (Reads.leaf' _ _ _) (ReadsL.cons (Reads.leaf' _ _ _) (ReadsL.nil _ _))))) ho' hg' hb';have hlt:=h.lt;have hMl:=h.map.lt
 refine K v' w' { own:=ho2,map:=h2.map.kept hg' (fun e => by have:=hge M e.symm;omega),box:=h2.box.mod hmod (fun hk => by have:=hge' _ hk;omega),bel:=h2.bel.trans (hmod.upto h2.bel.size (fun k hk => by have:=hge' k hk;omega)),lt:=hlt,dbox:=h2.dbox.mod hmod (fun hk => h.dne D (by simpa using hk) rfl),dne:=fun b hb => ?_,dM:=h.dM } ?_
 ·rcases hb' with hb' | hb'
  ·exact h.dne b (by rw [← hb'];exact hb)
  ·rw [hb'] at hb
   have hD:=h2.dbox.lt
   injection hb with hb
   omega
 ·obtain ⟨a,c,e,_⟩:=ho2.val
  exact ⟨a,c,e⟩
end
end Go.Proofs.YtdpnfkjafhbndaaGreatDoor
namespace Go.Proofs.YtdpnfkjafhbndaaGreatDoor
open Go.RowKit Go.Shelf
attribute [local go_sem] Oper.semAt_some run_mkMap
theorem ConfW.mono {w:World} {m:OMod} {au:Option Addr} {cu:Nat} {ad:Option Addr} {cd M n:Nat} {f:List UInt8→Option Value} {v:Value} {L:List OSpot} {wr:World} (h:ConfW w m au cu ad cd M n f v L wr) {n':Nat} (hn:n≤n'):ConfW w m au cu ad cd M n' f v L wr:=⟨h.own,h.map.mono hn,h.box,h.bel,h.lt⟩
theorem one_name {w:World} {X:List Nat} {l:List ByteArray} {an:Option Addr} {cn:Nat} {s:ByteArray} (h:Reads w X (strsT l) (.slice an l.length cn)) (hs:l = [s]):∃ b o,an = some ⟨b,o,none⟩∧b < w.heap.size∧w.cell? ⟨b,o,none⟩ = some (.string s):=by
 subst hs;obtain ⟨a,cap,e,_,_,hc⟩:=(reads_strs.1 h).1.shape
 injection e with e1 e2 e3
 subst e1;obtain ⟨b,o,rfl,hb,hk⟩:=hc 0 (by simp);exact ⟨b,o,rfl,hb,hk 0 (by simp)⟩
def spots2 (label:ByteArray) (id:Int) (k:Nat):List OSpot:=(List.range k).map fun k:Nat => ⟨label,2,id,(k:Int)⟩
theorem spots2_succ (label:ByteArray) (id:Int) (k:Nat):spots2 label id (k + 1) = spots2 label id k ++ [⟨label,2,id,(k:Int)⟩]:=by
 unfold spots2;rw [List.range_succ,List.map_append];rfl
theorem spots2_len (label:ByteArray) (id:Int) (k:Nat):(spots2 label id k).length = k:=by unfold spots2;simp
theorem conf_fin {w:World} {m:OMod} {au:Option Addr} {cu:Nat} {ad:Option Addr} {cd M n i:Nat} {f:List UInt8→Option Value} {v:Value} {L:List OSpot} {prev:List ODecl} {wr:World} (h1:spotsTo m.label m.decls (i + 1) = L) (h2:m.decls.take (i + 1) = prev) (h3:namesF prev = f) (h:ConfW w m au cu ad cd M n f v L wr) :
  ConfW w m au cu ad cd M n (namesF (m.decls.take (i + 1))) v (spotsTo m.label m.decls (i + 1)) wr:=by rw [h1,h2,h3];exact h
set_option maxRecDepth 100000 in
set_option maxHeartbeats 8000000 in
theorem mconfl_any (m:OMod) (au:Option Addr) (cu:Nat) (ad:Option Addr) (cd:Nat) (w:World) (hm:ModIn w [] m au cu ad cd) (hv:modErr m = 0) (hs:SmM m) :
  Calls Tryz.prog 83 #[modV m au cu ad cd] w fun e w' => ∃ v,e = .returned v∧Reads w' [] (spotsT (spotsL m.label m.decls)) v∧Bw w w':=by
 have V:=valM hv
 have hcf:∀ d∈m.decls,confX d.body≤400:=fun d hd => by
  have h1:=(exprErr_iff.1 (decl_ok (V.decl d hd)).2.2.2).1;have h2:=conf_nodes d.body;omega
 have HLN:=lH (fun i (hi:i≤m.decls.length) => spotsTo_len (label:=m.label) hcf i hi);have HND:Hid (∀ d∈m.decls,(d.names.length = 1∨d.names.length = 3)∧confX d.body≤400):=fun d hd => ⟨names_len (decl_ok (V.decl d hd)).2.2.1,hcf d hd⟩;have hdl:=V.dlen;have HS:=lH hs;have HMI:=lH hm
 have hC0:ConfW w m au cu ad cd (w.heap.size + 1) 0 (namesF []) (.slice none 0 0) [] ((w.alloc (.cells #[.string m.label,.slice au m.uses.length cu,.slice ad m.decls.length cd] 52)).alloc (.map #[] 0)):=by
  refine ⟨OwnT.nil _ _ _ _ _ _,?_,(CBox.new w 52 _).alloc _,qtrans (qalloc _ _) (qalloc _ _),by omega⟩;have:=IsMapS.made Tryz.prog 9 (w.alloc (.cells #[.string m.label,.slice au m.uses.length cu,.slice ad m.decls.length cd] 52));rwa [World.size_alloc] at this
 clear hcf hs hm V hv;unfold modV;have HC0:=lH hC0;clear hC0
 go_enter Tryz.func83,Tryz.ntmps83
 go_upto_region 3 with (fail)
 generalize (w.alloc (.cells #[.string m.label,.slice au m.uses.length cu,.slice ad m.decls.length cd] 52)).alloc (.map #[] 0) = w1 at *;obtain ⟨M,hM⟩:∃ M,w.heap.size + 1 = M:=⟨_,rfl⟩;rw [hM] at HC0 ⊢;clear hM;have x2:=HC0.out.box.cell (i:=2) (v:=.slice ad m.decls.length cd) rfl;have xl:=HC0.out.box.lt;go_wp2;clear x2 xl
 go_loopw [3,12] (fun sv iv wr => ∃ i:Nat,i≤m.decls.length∧iv = .int .i64 i∧Hid (ConfW w m au cu ad cd M i (namesF (m.decls.take i)) sv (spotsTo m.label m.decls i) wr)) (fun _ iv _ => m.decls.length - (intOf iv).toNat)
 case atStart => exact ⟨0,Nat.zero_le _,rfl,HC0⟩
 case round =>
  obtain ⟨i,hil,rfl,HC⟩:=hrel
  by_cases hi:i < m.decls.length
  ·have hd':decide ((i:Int) < (m.decls.length:Int)) = true:=decide_eq_true (by omega)
   have hir:(i:Int) < (m.decls.length:Int):=by omega
   obtain ⟨d,hd⟩:∃ d,m.decls[i]? = some d:=⟨_,List.getElem?_eq_getElem hi⟩;obtain ⟨b,o,an,cn,sa,cs,rfl,hb,hcell,hn1,hn2,hrn,hc1,hc2,hrs⟩:=decls_elem HMI.out.decls hd;have hbr:b < wr.heap.size:=Nat.lt_of_lt_of_le hb HC.out.bel.size;have hmem:=List.mem_of_getElem? hd;have HRN:=lH (hrn.out);have HRS:=lH (hrs.out);have HSD:=lH (HS.out.decls d hmem);have HSX:=lH ((spotsTo_succ m.label m.decls i).trans (by rw [dAt_of hd]));have HTK:=lH (take_at hd);have hcn:=(HND.out d hmem).2;have hln:=HLN.out i hil;have hnl:=(HND.out d hmem).1
   have c0:=(HC.out.bel.cell (p:=⟨b,_,none⟩) hb).trans (hcell 0 (.int .i64 d.id) rfl);have c1:=(HC.out.bel.cell (p:=⟨b,_,none⟩) hb).trans (hcell 1 (.int .i64 d.kind) rfl);have c2:=(HC.out.bel.cell (p:=⟨b,_,none⟩) hb).trans (hcell 2 (.bool d.pub) rfl);have c3:=(HC.out.bel.cell (p:=⟨b,_,none⟩) hb).trans (hcell 3 (.slice an d.names.length cn) rfl);have c4:=(HC.out.bel.cell (p:=⟨b,_,none⟩) hb).trans (hcell 4 (.bool d.doubt) rfl);have c5:=(HC.out.bel.cell (p:=⟨b,_,none⟩) hb).trans (hcell 5 (.int .i64 d.body.kind) rfl)
   have c6:=(HC.out.bel.cell (p:=⟨b,_,none⟩) hb).trans (hcell 6 (.string d.body.name) rfl);have c7:=(HC.out.bel.cell (p:=⟨b,_,none⟩) hb).trans (hcell 7 (.string d.body.more) rfl);have c8:=(HC.out.bel.cell (p:=⟨b,_,none⟩) hb).trans (hcell 8 (.int .i64 d.body.num) rfl);have c9:=(HC.out.bel.cell (p:=⟨b,_,none⟩) hb).trans (hcell 9 (.int .i64 d.body.den) rfl);have c10:=(HC.out.bel.cell (p:=⟨b,_,none⟩) hb).trans (hcell 10 (.slice sa d.body.subs.length cs) rfl);rw [Nat.add_zero] at c0
   have HD:=lH (HC.out.open #[.int .i64 d.id,.int .i64 d.kind,.bool d.pub,.slice an d.names.length cn,.bool d.doubt,.int .i64 d.body.kind,.string d.body.name,.string d.body.more,.int .i64 d.body.num,.int .i64 d.body.den,.slice sa d.body.subs.length cs]);clear hcell hrn hrs hd hmem HC;obtain ⟨A1,hA1⟩:∃ A,(if d.names.length = 3 then [(⟨m.label,1,d.id,0⟩:OSpot)] else []) = A:=⟨_,rfl⟩;obtain ⟨A3,hA3⟩:∃ A,(if d.doubt then [(⟨m.label,3,d.id,0⟩:OSpot)] else []) = A:=⟨_,rfl⟩
   obtain ⟨A4,hA4⟩:∃ A,(if clashB (m.decls.take i) d then [(⟨m.label,4,d.id,0⟩:OSpot)] else []) = A:=⟨_,rfl⟩
   replace HSX:Hid (spotsTo m.label m.decls (i + 1) = spotsTo m.label m.decls i ++ A1 ++ spots2 m.label d.id (confX d.body) ++ A3 ++ A4):=by
    show _ = _
    rw [HSX.out,← hA1,← hA3,← hA4];unfold spotsD spots2;simp only [List.append_assoc]
   have HA1:=lH hA1;have HA3:=lH hA3;have HA4:=lH hA4;clear hA1 hA3 hA4;generalize hL0:spotsTo m.label m.decls i = L0 at *;generalize m.decls.take i = prev at *;clear hL0;go_upto_region 6 with (fail)
   clear c0 c1 c2 c3 c4 c5 c6 c7 c8 c9 c10 hb hbr;generalize World.alloc wr _ = w2 at *;obtain ⟨D,hDe⟩:∃ D,wr.heap.size = D:=⟨_,rfl⟩;rw [hDe] at HD ⊢;clear hDe
   rcases hnl with hn | hn
   ·skip
    have x0:=HD.out.box.cell (i:=0) (v:=.string m.label) rfl;have xl:=HD.out.box.lt;have d0:=HD.out.dbox.cell (i:=0) (v:=.int .i64 d.id) rfl;have d3:=HD.out.dbox.cell (i:=3) (v:=.slice an d.names.length cn) rfl;have d4:=HD.out.dbox.cell (i:=4) (v:=.bool d.doubt) rfl;have d5:=HD.out.dbox.cell (i:=5) (v:=.int .i64 d.body.kind) rfl;have d6:=HD.out.dbox.cell (i:=6) (v:=.string d.body.name) rfl;have d7:=HD.out.dbox.cell (i:=7) (v:=.string d.body.more) rfl;have d8:=HD.out.dbox.cell (i:=8) (v:=.int .i64 d.body.num) rfl
    have d9:=HD.out.dbox.cell (i:=9) (v:=.int .i64 d.body.den) rfl;have d10:=HD.out.dbox.cell (i:=10) (v:=.slice sa d.body.subs.length cs) rfl;have dl:=HD.out.dbox.lt;have b3:((d.names.length:Int) == 3) = false:=by rw [hn];rfl
    have b1:((d.names.length:Int) == 1) = true:=by rw [hn];rfl
    obtain rfl:[] = A1:=by have:=HA1.out;rwa [if_neg (by omega)] at this
    rw [List.append_nil] at HSX;obtain ⟨s,hs⟩:=List.length_eq_one_iff.1 hn;have hss:=HSD.out.names s (by rw [hs];exact List.mem_singleton.2 rfl);obtain ⟨nb,no,rfl,hnb,hnc⟩:=one_name HRN.out hs;have HNF:=lH (namesF_one (ds:=prev) hs);have HCN:=lH (clash_names (ds:=prev) hs);have hn0:(0:Int) < (d.names.length:Int):=by omega
    have hHL:L0.length≤40301:=by omega
    clear HA1 hn;have HD1:=HD;have HXC:=lH (xConflicts_any d.body sa cs w2 (HRS.out.below HD1.out.bel) HSD.out.nodes);unfold exV at HXC;go_wp2_with (fail)
    generalize L0 = L1 at *;refine HXC.out.mono ?_;rintro e w4 ⟨rfl,hb4⟩;have HD4:=lH (HD1.out.below hb4);clear x0 xl d0 d3 d4 d5 d6 d7 d8 d9 d10 dl HXC hb4 HD1 HD;generalize confX d.body = q at *;go_wp2
    go_loopw [3,31] (fun sv iv wr => ∃ k:Nat,k≤q∧iv = .int .i64 k∧Hid (ConfD w m au cu _ cd M i (namesF prev) D #[.int .i64 d.id,.int .i64 d.kind,.bool d.pub,.slice (some ⟨nb,no,none⟩) d.names.length cn,.bool d.doubt,.int .i64 d.body.kind,.string d.body.name,.string d.body.more,.int .i64 d.body.num,.int .i64 d.body.den,.slice sa d.body.subs.length cs] sv (L1 ++ spots2 m.label d.id k) wr)) (fun _ iv _ => q - (intOf iv).toNat)
    case atStart => exact ⟨0,Nat.zero_le _,rfl,by rw [show spots2 m.label d.id 0 = [] from rfl,List.append_nil];exact HD4⟩
    case round =>
     obtain ⟨k,hk,rfl,HK⟩:=hrel;clear HD4;have x0:=HK.out.box.cell (i:=0) (v:=.string m.label) rfl;have xl:=HK.out.box.lt;have d0:=HK.out.dbox.cell (i:=0) (v:=.int .i64 d.id) rfl;have d3:=HK.out.dbox.cell (i:=3) (v:=.slice (some ⟨nb,no,none⟩) d.names.length cn) rfl;have d4:=HK.out.dbox.cell (i:=4) (v:=.bool d.doubt) rfl;have d5:=HK.out.dbox.cell (i:=5) (v:=.int .i64 d.body.kind) rfl;have d6:=HK.out.dbox.cell (i:=6) (v:=.string d.body.name) rfl;have d7:=HK.out.dbox.cell (i:=7) (v:=.string d.body.more) rfl
     have d8:=HK.out.dbox.cell (i:=8) (v:=.int .i64 d.body.num) rfl;have d9:=HK.out.dbox.cell (i:=9) (v:=.int .i64 d.body.den) rfl;have d10:=HK.out.dbox.cell (i:=10) (v:=.slice sa d.body.subs.length cs) rfl;have dl:=HK.out.dbox.lt
     by_cases hkq:k < q
     ·have hd2:decide ((k:Int) < (q:Int)) = true:=decide_eq_true (by omega)
      go_wp2_with (at_builtin;refine wpList_spot rfl _ _ rfl rfl ⟨m.label,2,d.id,(k:Int)⟩ rfl HK.out (by rw [List.length_append,spots2_len];omega) ?_;rintro v5 w5 HX9 -;have HK5:=lH HX9;clear HX9 x0 xl d0 d3 d4 d5 d6 d7 d8 d9 d10 dl)
      rw [List.append_assoc,← spots2_succ] at HK5;go_roundw
      case rel => exact ⟨k + 1,by omega,by go_num,HK5⟩
      case measure => simp [intOf];omega
     ·have hd2:decide ((k:Int) < (q:Int)) = false:=decide_eq_false (by omega)
      obtain rfl:k = q:=by omega
      have ha3:=HA3.out;obtain ⟨db,hdb⟩:∃ db,d.doubt = db:=⟨_,rfl⟩;rw [hdb] at d4 ha3
      cases db with
      | false =>
       obtain rfl:[] = A3:=ha3;rw [List.append_nil] at HSX;clear hdb;have hnc9:=(HK.out.bel.cell (p:=⟨nb,_,none⟩) hnb).trans hnc;have hnb9:nb < wr.heap.size:=Nat.lt_of_lt_of_le hnb HK.out.bel.size;have hlook:=HK.out.map.look strKeyed Tryz.underlying160 (Tryz.zeroValue4 wr) (key_str s hss);rw [HCN.out] at hlook;have ha4:=HA4.out;generalize clashB prev d = cb at hlook ha4
       cases cb with
       | false =>
        obtain rfl:[] = A4:=ha4;rw [List.append_nil] at HSX;obtain ⟨w9,hput,HW9⟩:=HK.out.put (by omega) hss;have HW9:=lH HW9;go_wp2;have HF:=lH (conf_fin HSX.out HTK.out HNF.out HW9.out);go_roundw
        case rel => exact ⟨i + 1,by omega,by go_num,HF⟩
        case measure => simp [intOf];omega
       | true =>
        obtain rfl:[(⟨m.label,4,d.id,0⟩:OSpot)] = A4:=ha4
        go_wp2_with (at_builtin;refine wpList_spot rfl _ _ rfl rfl ⟨m.label,4,d.id,0⟩ rfl HK.out (by rw [List.length_append,spots2_len];omega) ?_;rintro v7 w7 HX9 -;have HD7:=lH HX9;clear HX9 x0 xl d0 d3 d4 d5 d6 d7 d8 d9 d10 dl;have x0:=HD7.out.box.cell (i:=0) (v:=.string m.label) rfl;have xl:=HD7.out.box.lt;have d0:=HD7.out.dbox.cell (i:=0) (v:=.int .i64 d.id) rfl;have d3:=HD7.out.dbox.cell (i:=3) (v:=.slice (some ⟨nb,no,none⟩) d.names.length cn) rfl;have d4:=HD7.out.dbox.cell (i:=4) (v:=.bool d.doubt) rfl;have d5:=HD7.out.dbox.cell (i:=5) (v:=.int .i64 d.body.kind) rfl;have d6:=HD7.out.dbox.cell (i:=6) (v:=.string d.body.name) rfl;have d7:=HD7.out.dbox.cell (i:=7) (v:=.string d.body.more) rfl;have d8:=HD7.out.dbox.cell (i:=8) (v:=.int .i64 d.body.num) rfl;have d9:=HD7.out.dbox.cell (i:=9) (v:=.int .i64 d.body.den) rfl;have d10:=HD7.out.dbox.cell (i:=10) (v:=.slice sa d.body.subs.length cs) rfl;have dl:=HD7.out.dbox.lt;have hnc8:=(HD7.out.bel.cell (p:=⟨nb,_,none⟩) hnb).trans hnc;have hnb8:nb < w7.heap.size:=Nat.lt_of_lt_of_le hnb HD7.out.bel.size;obtain ⟨w9,hput,HW9⟩:=HD7.out.put (by omega) hss;have HW9:=lH HW9)
        have HF:=lH (conf_fin HSX.out HTK.out HNF.out HW9.out);go_roundw
        case rel => exact ⟨i + 1,by omega,by go_num,HF⟩
        case measure => simp [intOf];omega
      | true =>
       obtain rfl:[(⟨m.label,3,d.id,0⟩:OSpot)] = A3:=ha3;clear hdb
       go_upto_region 15 with (at_builtin;refine wpList_spot rfl _ _ rfl rfl ⟨m.label,3,d.id,0⟩ rfl HK.out (by rw [List.length_append,spots2_len];omega) ?_;rintro v6 w6 HX9 -;have HK6:=lH HX9;clear HX9 x0 xl d0 d3 d4 d5 d6 d7 d8 d9 d10 dl;have x0:=HK6.out.box.cell (i:=0) (v:=.string m.label) rfl;have xl:=HK6.out.box.lt;have d0:=HK6.out.dbox.cell (i:=0) (v:=.int .i64 d.id) rfl;have d3:=HK6.out.dbox.cell (i:=3) (v:=.slice (some ⟨nb,no,none⟩) d.names.length cn) rfl;have d4:=HK6.out.dbox.cell (i:=4) (v:=.bool d.doubt) rfl;have d5:=HK6.out.dbox.cell (i:=5) (v:=.int .i64 d.body.kind) rfl;have d6:=HK6.out.dbox.cell (i:=6) (v:=.string d.body.name) rfl;have d7:=HK6.out.dbox.cell (i:=7) (v:=.string d.body.more) rfl;have d8:=HK6.out.dbox.cell (i:=8) (v:=.int .i64 d.body.num) rfl;have d9:=HK6.out.dbox.cell (i:=9) (v:=.int .i64 d.body.den) rfl;have d10:=HK6.out.dbox.cell (i:=10) (v:=.slice sa d.body.subs.length cs) rfl;have dl:=HK6.out.dbox.lt)
       have hnc9:=(HK6.out.bel.cell (p:=⟨nb,_,none⟩) hnb).trans hnc;have hnb9:nb < w6.heap.size:=Nat.lt_of_lt_of_le hnb HK6.out.bel.size;have hlook:=HK6.out.map.look strKeyed Tryz.underlying160 (Tryz.zeroValue4 w6) (key_str s hss);rw [HCN.out] at hlook;have ha4:=HA4.out;generalize clashB prev d = cb at hlook ha4
       cases cb with
       | false =>
        obtain rfl:[] = A4:=ha4;rw [List.append_nil] at HSX;obtain ⟨w9,hput,HW9⟩:=HK6.out.put (by omega) hss;have HW9:=lH HW9;go_wp2;have HF:=lH (conf_fin HSX.out HTK.out HNF.out HW9.out);go_roundw
        case rel => exact ⟨i + 1,by omega,by go_num,HF⟩
        case measure => simp [intOf];omega
       | true =>
        obtain rfl:[(⟨m.label,4,d.id,0⟩:OSpot)] = A4:=ha4
        go_wp2_with (at_builtin;refine wpList_spot rfl _ _ rfl rfl ⟨m.label,4,d.id,0⟩ rfl HK6.out (by rw [List.length_append,List.length_append,spots2_len,List.length_singleton];omega) ?_;rintro v7 w7 HX9 -;have HD7:=lH HX9;clear HX9 x0 xl d0 d3 d4 d5 d6 d7 d8 d9 d10 dl;have x0:=HD7.out.box.cell (i:=0) (v:=.string m.label) rfl;have xl:=HD7.out.box.lt;have d0:=HD7.out.dbox.cell (i:=0) (v:=.int .i64 d.id) rfl;have d3:=HD7.out.dbox.cell (i:=3) (v:=.slice (some ⟨nb,no,none⟩) d.names.length cn) rfl;have d4:=HD7.out.dbox.cell (i:=4) (v:=.bool d.doubt) rfl;have d5:=HD7.out.dbox.cell (i:=5) (v:=.int .i64 d.body.kind) rfl;have d6:=HD7.out.dbox.cell (i:=6) (v:=.string d.body.name) rfl;have d7:=HD7.out.dbox.cell (i:=7) (v:=.string d.body.more) rfl;have d8:=HD7.out.dbox.cell (i:=8) (v:=.int .i64 d.body.num) rfl;have d9:=HD7.out.dbox.cell (i:=9) (v:=.int .i64 d.body.den) rfl;have d10:=HD7.out.dbox.cell (i:=10) (v:=.slice sa d.body.subs.length cs) rfl;have dl:=HD7.out.dbox.lt;have hnc8:=(HD7.out.bel.cell (p:=⟨nb,_,none⟩) hnb).trans hnc;have hnb8:nb < w7.heap.size:=Nat.lt_of_lt_of_le hnb HD7.out.bel.size;obtain ⟨w9,hput,HW9⟩:=HD7.out.put (by omega) hss;have HW9:=lH HW9)
        have HF:=lH (conf_fin HSX.out HTK.out HNF.out HW9.out);go_roundw
        case rel => exact ⟨i + 1,by omega,by go_num,HF⟩
        case measure => simp [intOf];omega
   ·skip
    have x0:=HD.out.box.cell (i:=0) (v:=.string m.label) rfl;have xl:=HD.out.box.lt;have d0:=HD.out.dbox.cell (i:=0) (v:=.int .i64 d.id) rfl;have d3:=HD.out.dbox.cell (i:=3) (v:=.slice an d.names.length cn) rfl;have d4:=HD.out.dbox.cell (i:=4) (v:=.bool d.doubt) rfl;have d5:=HD.out.dbox.cell (i:=5) (v:=.int .i64 d.body.kind) rfl;have d6:=HD.out.dbox.cell (i:=6) (v:=.string d.body.name) rfl;have d7:=HD.out.dbox.cell (i:=7) (v:=.string d.body.more) rfl;have d8:=HD.out.dbox.cell (i:=8) (v:=.int .i64 d.body.num) rfl
    have d9:=HD.out.dbox.cell (i:=9) (v:=.int .i64 d.body.den) rfl;have d10:=HD.out.dbox.cell (i:=10) (v:=.slice sa d.body.subs.length cs) rfl;have dl:=HD.out.dbox.lt;have b3:((d.names.length:Int) == 3) = true:=by rw [hn];rfl
    have b1:((d.names.length:Int) == 1) = false:=by rw [hn];rfl
    obtain rfl:[(⟨m.label,1,d.id,0⟩:OSpot)] = A1:=by have:=HA1.out;rwa [if_pos hn] at this
    obtain rfl:[] = A4:=by have:=HA4.out;rwa [if_neg (by unfold clashB;rw [hn];simp)] at this
    rw [List.append_nil] at HSX;have HNF:Hid (namesF (prev ++ [d]) = namesF prev):=namesF_other (by omega);have hHL:(L0 ++ [(⟨m.label,1,d.id,0⟩:OSpot)]).length≤40301:=by simp only [List.length_append,List.length_singleton];omega
    clear HA1 hn
    go_wp2_with (at_builtin;refine wpList_spot rfl _ _ rfl rfl ⟨m.label,1,d.id,0⟩ rfl HD.out (by omega) ?_;rintro v1 w3 HX9 -;have HD1:=lH HX9;clear HX9 x0 xl d0 d3 d4 d5 d6 d7 d8 d9 d10 dl;have x0:=HD1.out.box.cell (i:=0) (v:=.string m.label) rfl;have xl:=HD1.out.box.lt;have d0:=HD1.out.dbox.cell (i:=0) (v:=.int .i64 d.id) rfl;have d3:=HD1.out.dbox.cell (i:=3) (v:=.slice an d.names.length cn) rfl;have d4:=HD1.out.dbox.cell (i:=4) (v:=.bool d.doubt) rfl;have d5:=HD1.out.dbox.cell (i:=5) (v:=.int .i64 d.body.kind) rfl;have d6:=HD1.out.dbox.cell (i:=6) (v:=.string d.body.name) rfl;have d7:=HD1.out.dbox.cell (i:=7) (v:=.string d.body.more) rfl;have d8:=HD1.out.dbox.cell (i:=8) (v:=.int .i64 d.body.num) rfl;have d9:=HD1.out.dbox.cell (i:=9) (v:=.int .i64 d.body.den) rfl;have d10:=HD1.out.dbox.cell (i:=10) (v:=.slice sa d.body.subs.length cs) rfl;have dl:=HD1.out.dbox.lt;have HXC:=lH (xConflicts_any d.body sa cs w3 (HRS.out.below HD1.out.bel) HSD.out.nodes);unfold exV at HXC)
    generalize L0 ++ [(⟨m.label,1,d.id,0⟩:OSpot)] = L1 at *;refine HXC.out.mono ?_;rintro e w4 ⟨rfl,hb4⟩;have HD4:=lH (HD1.out.below hb4);clear x0 xl d0 d3 d4 d5 d6 d7 d8 d9 d10 dl HXC hb4 HD1 HD;generalize confX d.body = q at *;go_wp2
    go_loopw [3,31] (fun sv iv wr => ∃ k:Nat,k≤q∧iv = .int .i64 k∧Hid (ConfD w m au cu _ cd M i (namesF prev) D #[.int .i64 d.id,.int .i64 d.kind,.bool d.pub,.slice an d.names.length cn,.bool d.doubt,.int .i64 d.body.kind,.string d.body.name,.string d.body.more,.int .i64 d.body.num,.int .i64 d.body.den,.slice sa d.body.subs.length cs] sv (L1 ++ spots2 m.label d.id k) wr)) (fun _ iv _ => q - (intOf iv).toNat)
    case atStart => exact ⟨0,Nat.zero_le _,rfl,by rw [show spots2 m.label d.id 0 = [] from rfl,List.append_nil];exact HD4⟩
    case round =>
     obtain ⟨k,hk,rfl,HK⟩:=hrel;clear HD4;have x0:=HK.out.box.cell (i:=0) (v:=.string m.label) rfl;have xl:=HK.out.box.lt;have d0:=HK.out.dbox.cell (i:=0) (v:=.int .i64 d.id) rfl;have d3:=HK.out.dbox.cell (i:=3) (v:=.slice an d.names.length cn) rfl;have d4:=HK.out.dbox.cell (i:=4) (v:=.bool d.doubt) rfl;have d5:=HK.out.dbox.cell (i:=5) (v:=.int .i64 d.body.kind) rfl;have d6:=HK.out.dbox.cell (i:=6) (v:=.string d.body.name) rfl;have d7:=HK.out.dbox.cell (i:=7) (v:=.string d.body.more) rfl
     have d8:=HK.out.dbox.cell (i:=8) (v:=.int .i64 d.body.num) rfl;have d9:=HK.out.dbox.cell (i:=9) (v:=.int .i64 d.body.den) rfl;have d10:=HK.out.dbox.cell (i:=10) (v:=.slice sa d.body.subs.length cs) rfl;have dl:=HK.out.dbox.lt
     by_cases hkq:k < q
     ·have hd2:decide ((k:Int) < (q:Int)) = true:=decide_eq_true (by omega)
      go_wp2_with (at_builtin;refine wpList_spot rfl _ _ rfl rfl ⟨m.label,2,d.id,(k:Int)⟩ rfl HK.out (by rw [List.length_append,spots2_len];omega) ?_;rintro v5 w5 HX9 -;have HK5:=lH HX9;clear HX9 x0 xl d0 d3 d4 d5 d6 d7 d8 d9 d10 dl)
      rw [List.append_assoc,← spots2_succ] at HK5;go_roundw
      case rel => exact ⟨k + 1,by omega,by go_num,HK5⟩
      case measure => simp [intOf];omega
     ·have hd2:decide ((k:Int) < (q:Int)) = false:=decide_eq_false (by omega)
      obtain rfl:k = q:=by omega
      have ha3:=HA3.out;obtain ⟨db,hdb⟩:∃ db,d.doubt = db:=⟨_,rfl⟩;rw [hdb] at d4 ha3
      cases db with
      | false =>
       obtain rfl:[] = A3:=ha3;rw [List.append_nil] at HSX;clear hdb;go_wp2;have HF:=lH (conf_fin HSX.out HTK.out HNF.out (HK.out.toConfW.mono (Nat.le_succ i)));go_roundw
       case rel => exact ⟨i + 1,by omega,by go_num,HF⟩
       case measure => simp [intOf];omega
      | true =>
       obtain rfl:[(⟨m.label,3,d.id,0⟩:OSpot)] = A3:=ha3;clear hdb
       go_wp2_with (at_builtin;refine wpList_spot rfl _ _ rfl rfl ⟨m.label,3,d.id,0⟩ rfl HK.out (by rw [List.length_append,spots2_len];omega) ?_;rintro v6 w6 HX9 -;have HK6:=lH HX9;clear HX9 x0 xl d0 d3 d4 d5 d6 d7 d8 d9 d10 dl;have x0:=HK6.out.box.cell (i:=0) (v:=.string m.label) rfl;have xl:=HK6.out.box.lt;have d0:=HK6.out.dbox.cell (i:=0) (v:=.int .i64 d.id) rfl;have d3:=HK6.out.dbox.cell (i:=3) (v:=.slice an d.names.length cn) rfl;have d4:=HK6.out.dbox.cell (i:=4) (v:=.bool d.doubt) rfl;have d5:=HK6.out.dbox.cell (i:=5) (v:=.int .i64 d.body.kind) rfl;have d6:=HK6.out.dbox.cell (i:=6) (v:=.string d.body.name) rfl;have d7:=HK6.out.dbox.cell (i:=7) (v:=.string d.body.more) rfl;have d8:=HK6.out.dbox.cell (i:=8) (v:=.int .i64 d.body.num) rfl;have d9:=HK6.out.dbox.cell (i:=9) (v:=.int .i64 d.body.den) rfl;have d10:=HK6.out.dbox.cell (i:=10) (v:=.slice sa d.body.subs.length cs) rfl;have dl:=HK6.out.dbox.lt)
       have HF:=lH (conf_fin HSX.out HTK.out HNF.out (HK6.out.toConfW.mono (Nat.le_succ i)));go_roundw
       case rel => exact ⟨i + 1,by omega,by go_num,HF⟩
       case measure => simp [intOf];omega
  ·have hd2:decide ((i:Int) < (m.decls.length:Int)) = false:=decide_eq_false (by omega)
   obtain rfl:i = m.decls.length:=by omega
   go_wp2;go_ret;exact ⟨_,rfl,HC.out.own.reads0,HC.out.bel⟩
def spotsM (m:OMod):List OSpot:=if modErr m = 0 then spotsL m.label m.decls else []
set_option maxHeartbeats 2000000 in
theorem mConflicts_any (m:OMod) (au:Option Addr) (cu:Nat) (ad:Option Addr) (cd:Nat) (w:World) (hm:ModIn w [] m au cu ad cd) (hs:SmM m) :
  Calls Tryz.prog 37 #[modV m au cu ad cd] w fun e w' => ∃ v,e = .returned v∧Reads w' [] (spotsT (spotsM m)) v∧Bw w w':=by
 have hq:=qalloc w (.cells (mA m au cu ad cd) 52);have HB:=lH (CBox.new w 52 (mA m au cu ad cd));have HCK:=lH (bCheck_any m au cu ad cd _ (reads_strs.1 (hm.below hq).uses).1 (hm.below hq).decls hs);have HCF:=lH (fun W (h:Bw w W) hv => mconfl_any m au cu ad cd W (hm.below h) hv hs);have HSM:Hid (spotsM m = if modErr m = 0 then spotsL m.label m.decls else []):=rfl;clear hm hs;unfold modV at *;generalize spotsM m = T at *;generalize modErr m = q at *
 go_enter Tryz.func37,Tryz.ntmps37
 obtain ⟨x0,x1,x2,xl⟩:=cells3 HB.out;go_wp2_with (fail)
 refine HCK.out.mono ?_;rintro e w1 ⟨rfl,hb1⟩;have hw1:=qtrans hq hb1;have HB1:=lH (HB.out.below hb1);clear x0 x1 x2 xl HCK hb1 HB hq
 by_cases hq0:q = 0
 ·have q3:(q != 0) = false:=by rw [hq0];rfl
  have HSM:=lH (HSM.out.trans (if_pos hq0));have HC2:=lH (HCF.out w1 hw1 hq0);clear hq0 HCF;obtain ⟨x0,x1,x2,xl⟩:=cells3 HB1.out;go_wp2_with (fail)
  refine HC2.out.mono ?_;rintro e w2 ⟨v,rfl,hr,hb2⟩;have HR:=lH hr;clear x0 x1 x2 xl hr;go_wp2;go_ret;exact ⟨v,rfl,by rw [HSM.out];exact HR.out,qtrans hw1 hb2⟩
 ·have q3:(q != 0) = true:=by simp [hq0]
  have HSM:=lH (HSM.out.trans (if_neg hq0));clear hq0 HCF;go_wp2;go_ret;exact ⟨_,rfl,by rw [HSM.out];exact Reads.nilRow _ _ _ _,hw1⟩
set_option maxHeartbeats 2000000 in
theorem mClean_any (m:OMod) (au:Option Addr) (cu:Nat) (ad:Option Addr) (cd:Nat) (w:World) (hm:ModIn w [] m au cu ad cd) (hs:SmM m) :
  Calls Tryz.prog 39 #[modV m au cu ad cd] w fun e w' => e = .returned (.bool (cleanB m))∧Bw w w':=by
 have hq:=qalloc w (.cells (mA m au cu ad cd) 52);have HB:=lH (CBox.new w 52 (mA m au cu ad cd));have HCK:=lH (bCheck_any m au cu ad cd _ (reads_strs.1 (hm.below hq).uses).1 (hm.below hq).decls hs);have HCF:=lH (fun W (h:Bw w W) hv => mconfl_any m au cu ad cd W (hm.below h) hv hs);have HSM:Hid (cleanB m = (decide (modErr m = 0) && (spotsL m.label m.decls).isEmpty)):=rfl;clear hm hs;unfold modV at *;generalize cleanB m = T at *;generalize modErr m = q at *;generalize spotsL m.label m.decls = L at *
 go_enter Tryz.func39,Tryz.ntmps39
 obtain ⟨x0,x1,x2,xl⟩:=cells3 HB.out;go_wp2_with (fail)
 refine HCK.out.mono ?_;rintro e w1 ⟨rfl,hb1⟩;have hw1:=qtrans hq hb1;have HB1:=lH (HB.out.below hb1);clear x0 x1 x2 xl HCK hb1 HB hq
 by_cases hq0:q = 0
 ·have q3:(q == 0) = true:=by rw [hq0];rfl
  have HSM:=lH (HSM.out.trans (by rw [decide_eq_true hq0];rfl:_ = L.isEmpty));have HC2:=lH (HCF.out w1 hw1 hq0);clear hq0 HCF;obtain ⟨x0,x1,x2,xl⟩:=cells3 HB1.out;go_wp2_with (fail)
  refine HC2.out.mono ?_;rintro e w2 ⟨v,rfl,hr,hb2⟩;obtain ⟨a,c,rfl,-⟩:=hr.val
  have hL:((L.length:Int) == 0) = L.isEmpty:=by cases L with | nil => rfl | cons y r => simp;omega
  clear x0 x1 x2 xl hr
  cases hle:L.isEmpty with
  | true =>
   rw [hle] at hL;rw [hle] at HSM;go_wp2;go_ret;exact ⟨ret_bool HSM.out.symm,qtrans hw1 hb2⟩
  | false =>
   rw [hle] at hL;rw [hle] at HSM;go_wp2;go_ret;exact ⟨ret_bool HSM.out.symm,qtrans hw1 hb2⟩
 ·have q3:(q == 0) = false:=by simpa using hq0
  have HSM:=lH (HSM.out.trans (by rw [decide_eq_false hq0];rfl:_ = false));clear hq0 HCF;go_wp2;go_ret;exact ⟨ret_bool HSM.out.symm,hw1⟩
end Go.Proofs.YtdpnfkjafhbndaaGreatDoor

