/- Single operations at a frame of which only what they look at is known. awake of the laws of chapter 33. -/
import Derived.Test.YtdpnfkjafhbndaaGreatDoorRYC
import Derived.Test.YtdpnfkjafhbndaaGreatDoorRG8
namespace Go.Proofs.YtdpnfkjafhbndaaGreatDoor
open Go.RowKit Go.Shelf
attribute [local go_sem] Oper.semAt_some
theorem wpList_frame {P:Program} {ops:Array Oper} {Q:Exit→Act→World→Prop} {l:List Oper} {a fa:Act} {w:World} (h:a = fa) (k:wpList P ops Q l fa w):wpList P ops Q l a w:=h ▸ k
section
variable {fa:Act} {w:World} {K:Act→World→Prop} {Q:Exit→Act→World→Prop} {o:Oper}
theorem opw_move {x:Operand} (ho:o.op = .move x) (h:K (fa.put o.dst (fa.eval x)) w):Oper.wp Tryz.prog o fa w K Q:=by
 unfold Oper.wp execOp;simp only [ho]
 exact h
theorem opw_extract {x:Operand} {i:Nat} {vs:Array Value} {v:Value} (ho:o.op = .extract x i) (hx:fa.eval x = .tuple vs) (hi:vs[i]? = some v) (h:K (fa.put o.dst v) w):Oper.wp Tryz.prog o fa w K Q:=by
 unfold Oper.wp execOp;simp only [ho,hx]
 simp [Instr.extract,hi,go_sem]
 exact h
theorem opw_call {g:Operand} {f:FuncId} {args:Array Operand} {ats:Array TypeId} {vs:Array Value} (ho:o.op = .call { callee:=.value g,args:=args,argTypes:=ats }) (hg:fa.eval g = .func (.func f) #[] #[]) (hv:args.map fa.eval = vs) (he:Enters Tryz.prog f)
  (h:Calls Tryz.prog f vs w fun e w' => ∃ v,e = .returned v∧K (fa.put o.dst v) w'):Oper.wp Tryz.prog o fa w K Q:=by
 have hx:(execOp fa.eval o).run Tryz.prog w = .ok (.enter f vs) w:=by
  unfold execOp;simp only [ho,resolve,hg,hv]
  simp [invoke,go_sem]
  exact he vs w
 unfold Oper.wp;rw [hx];refine h.mono ?_;rintro e w' ⟨v,rfl,hk⟩;exact hk
theorem opw_loadX {x:Operand} {B:Nat} {a0 a1 a2 a3 a4 a5:Value} (ho:o.op = .load 66 x) (hx:fa.eval x = .pointer (some ⟨B,0,none⟩)) (hb:CBox w B 66 #[a0,a1,a2,a3,a4,a5]) (h:K (fa.put o.dst (.agg #[a0,a1,a2,a3,a4,a5])) w):Oper.wp Tryz.prog o fa w K Q:=by
 obtain ⟨h0,h1,h2,h3,h4,h5,hl⟩:=cells6 hb;unfold Oper.wp execOp;simp only [ho,hx]
 go_simp
 exact h
theorem opw_loadM {x:Operand} {B:Nat} {a0 a1 a2:Value} (ho:o.op = .load 52 x) (hx:fa.eval x = .pointer (some ⟨B,0,none⟩)) (hb:CBox w B 52 #[a0,a1,a2]) (h:K (fa.put o.dst (.agg #[a0,a1,a2])) w):Oper.wp Tryz.prog o fa w K Q:=by
 obtain ⟨h0,h1,h2,hl⟩:=cells3 hb;unfold Oper.wp execOp;simp only [ho,hx]
 go_simp
 exact h
theorem opw_loadD {x:Operand} {B:Nat} {a0 a1 a2 a3 a4 a5 a6 a7 a8 a9 a10:Value} (ho:o.op = .load 69 x) (hx:fa.eval x = .pointer (some ⟨B,0,none⟩)) (hb:CBox w B 69 #[a0,a1,a2,a3,a4,a5,a6,a7,a8,a9,a10]) (h:K (fa.put o.dst (.agg #[a0,a1,a2,a3,a4,a5,a6,a7,a8,a9,a10])) w):Oper.wp Tryz.prog o fa w K Q:=by
 obtain ⟨h0,h1,h2,h3,h4,h5,h6,h7,h8,h9,h10,hl⟩:=cells11 hb;unfold Oper.wp execOp;simp only [ho,hx]
 go_simp
 exact h
theorem opw_slice1 {x:Operand} {a0 a1 a2 a3 a4 a5 a6 a7 a8 a9 a10:Value} (ho:o.op = .buildSlice 33 1 #[(0,x)]) (hx:fa.eval x = .agg #[a0,a1,a2,a3,a4,a5,a6,a7,a8,a9,a10])
  (h:K (fa.put o.dst (.slice (some ⟨w.heap.size,0,none⟩) 1 1)) (w.alloc (.cells #[a0,a1,a2,a3,a4,a5,a6,a7,a8,a9,a10] 69))):Oper.wp Tryz.prog o fa w K Q:=by
 unfold Oper.wp execOp;simp only [ho,List.map_toArray,List.map_cons,List.map_nil,hx]
 go_simp
 exact h
theorem opw_slice2 {x y:Operand} {a0 a1 a2 a3 a4 a5 a6 a7 a8 a9 a10 b0 b1 b2 b3 b4 b5 b6 b7 b8 b9 b10:Value} (ho:o.op = .buildSlice 33 2 #[(0,x),(1,y)]) (hx:fa.eval x = .agg #[a0,a1,a2,a3,a4,a5,a6,a7,a8,a9,a10]) (hy:fa.eval y = .agg #[b0,b1,b2,b3,b4,b5,b6,b7,b8,b9,b10])
  (h:K (fa.put o.dst (.slice (some ⟨w.heap.size,0,none⟩) 2 2)) (w.alloc (.cells #[a0,a1,a2,a3,a4,a5,a6,a7,a8,a9,a10,b0,b1,b2,b3,b4,b5,b6,b7,b8,b9,b10] 69))):Oper.wp Tryz.prog o fa w K Q:=by
 unfold Oper.wp execOp;simp only [ho,List.map_toArray,List.map_cons,List.map_nil,hx,hy]
 go_simp
 exact h
theorem opw_storeM {x y:Operand} {k:Nat} {z0 z1 z2:Value} {s:ByteArray} {au ad:Option Addr} {lu cu ld cd:Nat} (ho:o.op = .store 52 x y) (hx:fa.eval x = .pointer (some ⟨k,0,none⟩)) (hy:fa.eval y = .agg #[.string s,.slice au lu cu,.slice ad ld cd]) (hb:CBox w k 52 #[z0,z1,z2]) (h:∀ v,K (fa.put o.dst v) (((w.setCell ⟨k,0,none⟩ (.string s)).setCell ⟨k,1,none⟩ (.slice au lu cu)).setCell ⟨k,2,none⟩ (.slice ad ld cd))):Oper.wp Tryz.prog o fa w K Q:=by
 obtain ⟨h0,h1,h2,hl⟩:=cells3 hb;obtain ⟨f0,f1,f2⟩:=frozen3 hb;unfold Oper.wp execOp;simp only [ho,hx,hy]
 go_simp
 exact h _
theorem opw_allocM (ho:o.op = .alloc 52) (h:K (fa.put o.dst (.pointer (some ⟨w.heap.size,0,none⟩))) (w.alloc (.cells mZ 52))):Oper.wp Tryz.prog o fa w K Q:=by
 unfold Oper.wp execOp;simp only [ho]
 go_simp
 exact h
end
def ExR (X:List Nat) (x:Ex) (a:Option Addr) (c:Nat) (v:Value) (w:World):Prop:=v = exV x a c∧ExIn w X x a c
def DcR (X:List Nat) (d:ODecl) (v:Value) (w:World):Prop:=∃ an cn sa cs,v = declV d an cn sa cs∧DecX w X d an cn sa cs
def DsR (X:List Nat) (l:List ODecl) (v:Value) (w:World):Prop:=∃ a c,v = .slice a l.length c∧Reads w X (declsT l) (.slice a l.length c)∧l.length≤c∧c≤9223372036854775807
def MoR (X:List Nat) (m:OMod) (v:Value) (w:World):Prop:=∃ au cu ad cd,v = modV m au cu ad cd∧ModIn w X m au cu ad cd
def MqR (X:List Nat) (m:OMod) (q:Int) (v:Value) (w:World):Prop:=∃ v1,v = .tuple #[v1,.int .i64 q]∧MoR X m v1 w
section
variable {X:List Nat} {w w':World} {v:Value}
theorem ExR.below {x:Ex} {a:Option Addr} {c:Nat} (h:ExR X x a c v w) (k:Bw w w'):ExR X x a c v w':=⟨h.1,h.2.below k⟩
theorem DcR.below {d:ODecl} (h:DcR X d v w) (k:Bw w w'):DcR X d v w':=by obtain ⟨an,cn,sa,cs,e,h⟩:=h;exact ⟨an,cn,sa,cs,e,h.below k⟩
theorem DsR.below {l:List ODecl} (h:DsR X l v w) (k:Bw w w'):DsR X l v w':=by obtain ⟨a,c,e,h1,h2,h3⟩:=h;exact ⟨a,c,e,h1.below k,h2,h3⟩
theorem MoR.below {m:OMod} (h:MoR X m v w) (k:Bw w w'):MoR X m v w':=by obtain ⟨a,b,c,d,e,h⟩:=h;exact ⟨a,b,c,d,e,h.below k⟩
theorem MqR.below {m:OMod} {q:Int} (h:MqR X m q v w) (k:Bw w w'):MqR X m q v w':=by obtain ⟨v1,e,h⟩:=h;exact ⟨v1,e,h.below k⟩
theorem ExR.more {x:Ex} {a:Option Addr} {c k:Nat} (h:ExR X x a c v w) (hk:w.heap.size≤k):ExR (k :: X) x a c v w:=⟨h.1,h.2.more hk⟩
theorem DcR.more {d:ODecl} {k:Nat} (h:DcR X d v w) (hk:w.heap.size≤k):DcR (k :: X) d v w:=by obtain ⟨an,cn,sa,cs,e,h⟩:=h;exact ⟨an,cn,sa,cs,e,h.more hk⟩
theorem DsR.more {l:List ODecl} {k:Nat} (h:DsR X l v w) (hk:w.heap.size≤k):DsR (k :: X) l v w:=by obtain ⟨a,c,e,h1,h2,h3⟩:=h;exact ⟨a,c,e,h1.more hk,h2,h3⟩
theorem MoR.more {m:OMod} {k:Nat} (h:MoR X m v w) (hk:w.heap.size≤k):MoR (k :: X) m v w:=by obtain ⟨a,b,c,d,e,h⟩:=h;exact ⟨a,b,c,d,e,h.more hk⟩
theorem MqR.more {m:OMod} {q:Int} {k:Nat} (h:MqR X m q v w) (hk:w.heap.size≤k):MqR (k :: X) m q v w:=by obtain ⟨v1,e,h⟩:=h;exact ⟨v1,e,h.more hk⟩
end
section
variable {X:List Nat} {w w':World} {v:Value}
theorem ExR.mod {x:Ex} {a:Option Addr} {c:Nat} (h:ExR X x a c v w) (k:Mod X w w'):ExR X x a c v w':=⟨h.1,h.2.mod k⟩
theorem DcR.mod {d:ODecl} (h:DcR X d v w) (k:Mod X w w'):DcR X d v w':=by obtain ⟨an,cn,sa,cs,e,h⟩:=h;exact ⟨an,cn,sa,cs,e,h.mod k⟩
theorem DsR.mod {l:List ODecl} (h:DsR X l v w) (k:Mod X w w'):DsR X l v w':=by obtain ⟨a,c,e,h1,h2,h3⟩:=h;exact ⟨a,c,e,h1.mod k,h2,h3⟩
theorem MoR.mod {m:OMod} (h:MoR X m v w) (k:Mod X w w'):MoR X m v w':=by obtain ⟨a,b,c,d,e,h⟩:=h;exact ⟨a,b,c,d,e,h.mod k⟩
theorem MqR.mod {m:OMod} {q:Int} (h:MqR X m q v w) (k:Mod X w w'):MqR X m q v w':=by obtain ⟨v1,e,h⟩:=h;exact ⟨v1,e,h.mod k⟩
end
def BxR (v:Value) (k:Nat) (w:World):Prop:=∃ v0 v1 v2,v = .agg #[v0,v1,v2]∧CBox w k 52 #[v0,v1,v2]
section
variable {fa:Act} {w:World} {K:Act→World→Prop} {Q:Exit→Act→World→Prop} {o:Oper} {X:List Nat}
theorem st_let {ae:Operand} {id:Int} {s:ByteArray} {x:Ex} {a:Option Addr} {c:Nat} {ats:Array TypeId} (ho:o.op = .call { callee:=.value (.func 81),args:=#[.const (.int .i64 id),.const (.string s),ae],argTypes:=ats })
  (hX:∀ k,k∈X→k < w.heap.size) (hx:ExR X x a c (fa.eval ae) w) (hK:∀ v w',Bw w w'→DcR X (letD id s x) v w'→K (fa.put o.dst v) w'):Oper.wp Tryz.prog o fa w K Q:=by
 refine opw_call (f:=81) (vs:=#[.int .i64 id,.string s,exV x a c]) ho rfl ?_ (enters_of Tryz.func81 (by kernel_rfl) rfl) ?_
 ·rw [← hx.1];simp only [List.map_toArray,List.map_cons,List.map_nil];rfl
 ·refine (let33_any id s x a c X w hX hx.2).mono ?_
  rintro e w' ⟨an,rfl,hd,hb⟩;exact ⟨_,rfl,hK _ _ hb ⟨_,_,_,_,rfl,hd⟩⟩
theorem st_of {ao g:Operand} {ds:List ODecl} {ats:Array TypeId} (ho:o.op = .call { callee:=.value g,args:=#[ao],argTypes:=ats }) (hg:fa.eval g = .func (.func 80) #[] #[])
  (hx:DsR X ds (fa.eval ao) w) (hK:∀ v w',Bw w w'→MoR X (ofM ds) v w'→K (fa.put o.dst v) w'):Oper.wp Tryz.prog o fa w K Q:=by
 obtain ⟨a,c,e,h1,h2,h3⟩:=hx;refine opw_call (f:=80) (vs:=#[.slice a ds.length c]) ho hg ?_ (enters_of Tryz.func80 (by kernel_rfl) rfl) ?_
 ·rw [← e];simp only [List.map_toArray,List.map_cons,List.map_nil]
 ·refine (of33_any ds a c w).mono ?_
  rintro e w' ⟨rfl,hb⟩;exact ⟨_,rfl,hK _ _ hb ⟨_,_,_,_,rfl,Reads.nilRow _ _ _ _,h1.below hb,Nat.le_refl _,Nat.zero_le _,h2,h3⟩⟩
theorem st_merge {a0 a1 a2:Operand} {b l r:OMod} {ats:Array TypeId} (ho:o.op = .call { callee:=.value (.func 45),args:=#[a0,a1,a2],argTypes:=ats }) (hX:∀ k,k∈X→k < w.heap.size)
  (sb:SmM b∧∀ d∈b.decls,nodesN d.body≤1000000) (sl:SmM l∧∀ d∈l.decls,nodesN d.body≤1000000) (sr:SmM r∧∀ d∈r.decls,nodesN d.body≤1000000)
  (hb:MoR X b (fa.eval a0) w) (hl:MoR X l (fa.eval a1) w) (hr:MoR X r (fa.eval a2) w) (hK:∀ v w',Bw w w'→MqR X (mergeM b l r) (mergeMErr b l r) v w'→K (fa.put o.dst v) w'):Oper.wp Tryz.prog o fa w K Q:=by
 obtain ⟨aub,cub,adb,cdb,eb,hb⟩:=hb;obtain ⟨aul,cul,adl,cdl,el,hl⟩:=hl;obtain ⟨aur,cur,adr,cdr,er,hr⟩:=hr;refine opw_call (f:=45) (vs:=#[modV b aub cub adb cdb,modV l aul cul adl cdl,modV r aur cur adr cdr]) ho rfl ?_ (enters_of Tryz.func45 (by kernel_rfl) rfl) ?_
 ·rw [← eb,← el,← er];simp only [List.map_toArray,List.map_cons,List.map_nil]
 ·refine (mMerge_any b l r aub aul aur adb adl adr cub cul cur cdb cdl cdr X w hX ⟨hb,sb.1,sb.2⟩ ⟨hl,sl.1,sl.2⟩ ⟨hr,sr.1,sr.2⟩).mono ?_
  rintro e w' ⟨au,cu,ad,cd,rfl,hm,hbw⟩;exact ⟨_,rfl,hK _ _ hbw ⟨_,rfl,_,_,_,_,rfl,hm⟩⟩
theorem decls_box {B:Nat} (hX:B ∉ X) (ds:List (ODecl × Option Addr × Nat × Option Addr × Nat)) (h:CBox w B 69 ((ds.flatMap fun t => declL t.1 t.2.1 t.2.2.1 t.2.2.2.1 t.2.2.2.2).toArray)) (hn:ds.length≤1000000)
  (hd:∀ t∈ds,DecX w X t.1 t.2.1 t.2.2.1 t.2.2.2.1 t.2.2.2.2):Reads w X (declsT (ds.map (·.1))) (.slice (some ⟨B,0,none⟩) ds.length ds.length):=by
 have hl:(ds.map (·.1)).length = ds.length:=List.length_map _;refine Reads.ofRow (xs:=ds.flatMap fun t => declL t.1 t.2.1 t.2.2.1 t.2.2.2.1 t.2.2.2.2) ?_ (fun _ k hk hx => ?_) ?_
 ·rw [hl]
  refine ⟨?_,some ⟨B,0,none⟩,ds.length,rfl,Nat.le_refl _,by unfold maxLen;omega,fun _ => ⟨B,0,rfl,h.lt,fun j v hj => ?_⟩⟩
  ·clear h hl hn hd
   induction ds with
   | nil => rfl
   | cons t ds ih => rw [List.flatMap_cons,List.length_append,ih,List.length_cons];simp [declL];omega
  ·rw [Nat.zero_add]
   exact h.cell (by rw [← Array.getElem?_toList];exact hj)
 ·simp [Value.ownBlock] at hk
  subst hk;exact hX hx
 ·clear h hl hn
  induction ds with
  | nil => exact ReadsL.nil _ _
  | cons t ds ih =>
   rw [List.map_cons,List.flatMap_cons,List.flatMap_cons];have h1:=hd t (List.mem_cons_self ..);exact ReadsL.append (ih (fun u hu => hd u (List.mem_cons_of_mem _ hu))) (cells_decl h1.names h1.subs)
theorem st_slice1 {x:Operand} {d:ODecl} (ho:o.op = .buildSlice 33 1 #[(0,x)]) (hX:∀ k,k∈X→k < w.heap.size) (hx:DcR X d (fa.eval x) w) (hK:∀ v w',Bw w w'→DsR X [d] v w'→K (fa.put o.dst v) w'):Oper.wp Tryz.prog o fa w K Q:=by
 obtain ⟨an,cn,sa,cs,e,hd⟩:=hx;refine opw_slice1 ho (e.trans rfl) (hK _ _ (qalloc _ _) ⟨_,1,rfl,?_,Nat.le_refl _,by omega⟩)
 exact decls_box (ds:=[(d,an,cn,sa,cs)]) (fun h => absurd (hX _ h) (Nat.lt_irrefl _)) (CBox.new w _ _) (by simp) (fun t ht => by
  simp only [List.mem_cons,List.not_mem_nil,or_false] at ht
  subst ht
  exact hd.below (qalloc _ _))
theorem st_slice2 {x y:Operand} {d f:ODecl} (ho:o.op = .buildSlice 33 2 #[(0,x),(1,y)]) (hX:∀ k,k∈X→k < w.heap.size) (hx:DcR X d (fa.eval x) w) (hy:DcR X f (fa.eval y) w) (hK:∀ v w',Bw w w'→DsR X [d,f] v w'→K (fa.put o.dst v) w'):Oper.wp Tryz.prog o fa w K Q:=by
 obtain ⟨an,cn,sa,cs,e,hd⟩:=hx;obtain ⟨bn,dn,ta,ct,e2,hf⟩:=hy;refine opw_slice2 ho (e.trans rfl) (e2.trans rfl) (hK _ _ (qalloc _ _) ⟨_,2,rfl,?_,Nat.le_refl _,by omega⟩)
 exact decls_box (ds:=[(d,an,cn,sa,cs),(f,bn,dn,ta,ct)]) (fun h => absurd (hX _ h) (Nat.lt_irrefl _)) (CBox.new w _ _) (by simp) (fun t ht => by
  simp only [List.mem_cons,List.not_mem_nil,or_false] at ht
  rcases ht with rfl | rfl
  ·exact hd.below (qalloc _ _)
  ·exact hf.below (qalloc _ _))
theorem st_store {x y:Operand} {k:Nat} {m:OMod} {vc:Value} {z0 z1 z2:Value} (ho:o.op = .store 52 x y) (hx:fa.eval x = .pointer (some ⟨k,0,none⟩)) (hy:fa.eval y = vc) (hb:CBox w k 52 #[z0,z1,z2]) (hc:MoR X m vc w)
  (h:∀ v w',Mod [k] w w'→BxR vc k w'→K (fa.put o.dst v) w'):Oper.wp Tryz.prog o fa w K Q:=by
 obtain ⟨au,cu,ad,cd,e,_⟩:=hc;obtain ⟨HC9,HM9⟩:=CBox.three hb (.string m.label) (.slice au m.uses.length cu) (.slice ad m.decls.length cd);exact opw_storeM ho hx (hy.trans (e.trans rfl)) hb (fun v => h v _ HM9 ⟨_,_,_,e,HC9⟩)
theorem opw_pick {x:Operand} {c d:Operand} (ho:o.op = .pick c x d) (hc:fa.eval c = .bool true) (h:K (fa.put o.dst (fa.eval x)) w):Oper.wp Tryz.prog o fa w K Q:=by
 unfold Oper.wp execOp;simp only [ho,hc]
 exact h
theorem opw_eqI {x y:Operand} {i j:Int} {b:Bool} {t:TypeId} (ho:o.op = .binOp .eql 27 x y t) (hx:fa.eval x = .int .i64 i) (hy:fa.eval y = .int .i64 j) (hb:(i == j) = b) (h:K (fa.put o.dst (.bool b)) w):Oper.wp Tryz.prog o fa w K Q:=by
 unfold Oper.wp execOp;simp only [ho,hx,hy]
 simp [go_sem,hb]
 exact h
theorem opw_not {x:Operand} {b:Bool} (ho:o.op = .unOp .not 4 x) (hx:fa.eval x = .bool b) (h:K (fa.put o.dst (.bool (!b))) w):Oper.wp Tryz.prog o fa w K Q:=by
 unfold Oper.wp execOp;simp only [ho,hx]
 go_simp
 exact h
theorem opw_spot {s:ByteArray} {k i:Int} (ho:o.op = .build 54 #[(0,.const (.string s)),(1,.const (.int .i64 k)),(2,.const (.int .i64 i))]) (h:K (fa.put o.dst (.agg #[.string s,.int .i64 k,.int .i64 i,.int .i64 0])) w):Oper.wp Tryz.prog o fa w K Q:=by
 unfold Oper.wp execOp;simp only [ho,List.map_toArray,List.map_cons,List.map_nil]
 go_simp
 exact h
theorem opw_slice4 {x:Operand} {a0 a1 a2 a3:Value} (ho:o.op = .buildSlice 59 1 #[(0,x)]) (hx:fa.eval x = .agg #[a0,a1,a2,a3]) (h:K (fa.put o.dst (.slice (some ⟨w.heap.size,0,none⟩) 1 1)) (w.alloc (.cells #[a0,a1,a2,a3] 54))):Oper.wp Tryz.prog o fa w K Q:=by
 unfold Oper.wp execOp;simp only [ho,List.map_toArray,List.map_cons,List.map_nil,hx]
 go_simp
 exact h
def SpR (l:List OSpot) (v:Value) (w:World):Prop:=∃ a c,v = .slice a l.length c∧Reads w [] (spotsT l) (.slice a l.length c)
theorem SpR.below {l:List OSpot} {v:Value} {w w':World} (h:SpR l v w) (k:Bw w w'):SpR l v w':=by obtain ⟨a,c,e,h⟩:=h;exact ⟨a,c,e,h.below k⟩
theorem st_same {x y:Operand} {m n:OMod} {ats:Array TypeId} (ho:o.op = .call { callee:=.value (.func 41),args:=#[x,y],argTypes:=ats }) (hm:MoR [] m (fa.eval x) w) (hn:MoR [] n (fa.eval y) w) (hs:SmM m∧∀ d∈m.decls,nodesN d.body≤1000000)
  (hK:∀ w',Bw w w'→K (fa.put o.dst (.bool (sameM m n))) w'):Oper.wp Tryz.prog o fa w K Q:=by
 obtain ⟨aum,cum,adm,cdm,e1,h1⟩:=hm;obtain ⟨aun,cun,adn,cdn,e2,h2⟩:=hn;refine opw_call (f:=41) (vs:=#[modV m aum cum adm cdm,modV n aun cun adn cdn]) ho rfl ?_ (enters_of Tryz.func41 (by kernel_rfl) rfl) ?_
 ·rw [← e1,← e2];simp only [List.map_toArray,List.map_cons,List.map_nil]
 ·refine (r24Same_any m n aum adm aun adn cum cdm cun cdn w h1 h2 (fun d hd => ⟨(hs.1.decls d hd).len,hs.2 d hd⟩) hs.1.ulen hs.1.dlen).mono ?_
  rintro e w' ⟨rfl,hb⟩;exact ⟨_,rfl,hK _ hb⟩
theorem st_clean {x:Operand} {m:OMod} {ats:Array TypeId} (ho:o.op = .call { callee:=.value (.func 39),args:=#[x],argTypes:=ats }) (hm:MoR [] m (fa.eval x) w) (hs:SmM m)
  (hK:∀ w',Bw w w'→K (fa.put o.dst (.bool (cleanB m))) w'):Oper.wp Tryz.prog o fa w K Q:=by
 obtain ⟨aum,cum,adm,cdm,e1,h1⟩:=hm;refine opw_call (f:=39) (vs:=#[modV m aum cum adm cdm]) ho rfl ?_ (enters_of Tryz.func39 (by kernel_rfl) rfl) ?_
 ·rw [← e1];simp only [List.map_toArray,List.map_cons,List.map_nil]
 ·refine (mClean_any m aum cum adm cdm w h1 hs).mono ?_
  rintro e w' ⟨rfl,hb⟩;exact ⟨_,rfl,hK _ hb⟩
theorem st_spots {x y:Operand} {l m:List OSpot} {ats:Array TypeId} (ho:o.op = .call { callee:=.value (.func 36),args:=#[x,y],argTypes:=ats }) (hl:SpR l (fa.eval x) w) (hm:SpR m (fa.eval y) w) (hn:l.length≤1000000)
  (hK:∀ w',Bw w w'→K (fa.put o.dst (.bool (sameSps l m))) w'):Oper.wp Tryz.prog o fa w K Q:=by
 obtain ⟨a1,c1,e1,h1⟩:=hl;obtain ⟨a2,c2,e2,h2⟩:=hm;refine opw_call (f:=36) (vs:=#[.slice a1 l.length c1,.slice a2 m.length c2]) ho rfl ?_ (enters_of Tryz.func36 (by kernel_rfl) rfl) ?_
 ·rw [← e1,← e2];simp only [List.map_toArray,List.map_cons,List.map_nil]
 ·refine (rSameSpots_any l m a1 a2 c1 c2 w h1 h2 hn).mono ?_
  rintro e w' ⟨rfl,hb⟩;exact ⟨_,rfl,hK _ hb⟩
theorem spots_box {B:Nat} {s:OSpot} (h:CBox w B 54 (spotA s)):SpR [s] (.slice (some ⟨B,0,none⟩) 1 1) w:=by
 refine ⟨_,1,rfl,Reads.ofRow (xs:=(spotA s).toList) ⟨rfl,some ⟨B,0,none⟩,1,rfl,Nat.le_refl _,by unfold maxLen;omega,fun _ => ⟨B,0,rfl,h.lt,fun j v hj => ?_⟩⟩ (by simp) ?_⟩
 ·rw [Nat.zero_add]
  exact h.cell (by rw [← Array.getElem?_toList];exact hj)
 ·exact ReadsL.cons (Reads.leaf' _ _ _) (ReadsL.cons (Reads.leaf' _ _ _) (ReadsL.cons (Reads.leaf' _ _ _) (ReadsL.cons (Reads.leaf' _ _ _) (ReadsL.nil _ _))))
end
def xN (i:Int):Ex:=.mk 1 ⟨#[]⟩ ⟨#[]⟩ i 0 []
def xR:Ex:=.mk 5 ⟨#[]⟩ ⟨#[]⟩ 1 0 []
def xC:Ex:=.mk 7 ⟨#[]⟩ ⟨#[]⟩ 0 0 [xR,xN 1]
def dF (i:Int):ODecl:=letD 1 ⟨#[102]⟩ (xN i)
def dG:ODecl:=letD 1 ⟨#[103]⟩ (xN 1)
def dH:ODecl:=letD 2 ⟨#[104]⟩ xC
theorem aw_err1:mergeMErr (ofM [dF 1]) (ofM [dG]) (ofM [dF 1,dH]) = 0:=by kernel_rfl
theorem aw_out1:mergeM (ofM [dF 1]) (ofM [dG]) (ofM [dF 1,dH]) = ofM [dG,dH]:=by
 unfold mergeM;rw [aw_err1,if_pos rfl]
 kernel_rfl
theorem aw_clean1:cleanB (ofM [dG,dH]) = true:=by kernel_rfl
theorem aw_err2:mergeMErr (ofM [dF 1]) (ofM []) (ofM [dF 2]) = 0:=by kernel_rfl
theorem aw_out2:mergeM (ofM [dF 1]) (ofM []) (ofM [dF 2]) = ofM [doubtD (dF 2)]:=by
 unfold mergeM;rw [aw_err2,if_pos rfl]
 kernel_rfl
theorem aw_spots2:spotsM (ofM [doubtD (dF 2)]) = [⟨⟨#[109]⟩,3,1,0⟩]:=by kernel_rfl
theorem aw_clean2:cleanB (ofM [doubtD (dF 2)]) = false:=by kernel_rfl
theorem smx_leaf (k i:Int) (h1:inI k) (h2:inI i):SmX 40000 (.mk k ⟨#[]⟩ ⟨#[]⟩ i 0 []):=SmX.mk (by simp [ByteArray.size]) (by simp [ByteArray.size]) h1 h2 (by unfold inI;omega) (fun _ h => by simp at h)
theorem smx_N (i:Int) (h:inI i):SmX 40000 (xN i):=smx_leaf 1 i (by unfold inI;omega) h
theorem smx_C:SmX 40000 xC:=SmX.mk (by simp [ByteArray.size]) (by simp [ByteArray.size]) (by unfold inI;omega) (by unfold inI;omega) (by unfold inI;omega) (fun x hx => by
 simp only [List.mem_cons,List.not_mem_nil,or_false] at hx
 rcases hx with rfl | rfl
 ·exact smx_leaf 5 1 (by unfold inI;omega) (by unfold inI;omega)
 ·exact smx_N 1 (by unfold inI;omega))
theorem smd_let {id:Int} {s:ByteArray} {x:Ex} (hs:s.size≤40000) (hx:SmX 40000 x) (hn:nodesN x≤4000000):SmD (letD id s x):=⟨fun t ht => by
 have:t = s:=by simpa [letD] using ht
 rw [this];exact hs,by simp [letD],hx,hn⟩
theorem smd_doubt {d:ODecl} (h:SmD d):SmD (doubtD d):=⟨h.names,h.len,h.body,h.nodes⟩
theorem smd_F (i:Int) (h:inI i):SmD (dF i):=smd_let (by simp [ByteArray.size]) (smx_N i h) (by show nodesN (.mk _ _ _ _ _ [])≤_;rw [nodesN_eq];simp [Ex.subs,nodesL])
theorem smd_G:SmD dG:=smd_let (by simp [ByteArray.size]) (smx_N 1 (by unfold inI;omega)) (by show nodesN (.mk _ _ _ _ _ [])≤_;rw [nodesN_eq];simp [Ex.subs,nodesL])
theorem nodes_C:nodesN xC = 3:=by kernel_rfl
theorem smd_H:SmD dH:=smd_let (by simp [ByteArray.size]) smx_C (by show nodesN xC≤_;rw [nodes_C];omega)
theorem ofM_sm {ds:List ODecl} (h:∀ d∈ds,SmD d) (hl:ds.length≤1000):SmM (ofM ds):=⟨by simp [ofM,ByteArray.size],fun _ h => by simp [ofM] at h,by simp [ofM],h,by simp [ofM];omega⟩
theorem nodes_F (i:Int):nodesN (dF i).body≤1000000:=by show nodesN (.mk _ _ _ _ _ [])≤_;rw [nodesN_eq];simp [Ex.subs,nodesL]
theorem nodes_G:nodesN dG.body≤1000000:=by show nodesN (.mk _ _ _ _ _ [])≤_;rw [nodesN_eq];simp [Ex.subs,nodesL]
theorem nodes_H:nodesN dH.body≤1000000:=by show nodesN xC≤_;rw [nodes_C];omega
theorem sm_1:SmM (ofM [dF 1])∧∀ d∈(ofM [dF 1]).decls,nodesN d.body≤1000000:=⟨ofM_sm (by simp;exact smd_F 1 (by unfold inI;omega)) (by simp),by simp only [ofM,List.mem_cons,List.not_mem_nil,or_false,forall_eq];exact nodes_F 1⟩
theorem sm_2:SmM (ofM [dG])∧∀ d∈(ofM [dG]).decls,nodesN d.body≤1000000:=⟨ofM_sm (by simp;exact smd_G) (by simp),by simp only [ofM,List.mem_cons,List.not_mem_nil,or_false,forall_eq];exact nodes_G⟩
theorem sm_3:SmM (ofM [dF 1,dH])∧∀ d∈(ofM [dF 1,dH]).decls,nodesN d.body≤1000000:=⟨ofM_sm (by simp;exact ⟨smd_F 1 (by unfold inI;omega),smd_H⟩) (by simp),by simp only [ofM,List.mem_cons,List.not_mem_nil,or_false,forall_eq_or_imp,forall_eq];exact ⟨nodes_F 1,nodes_H⟩⟩
theorem sm_4:SmM (ofM [])∧∀ d∈(ofM []).decls,nodesN d.body≤1000000:=⟨ofM_sm (by simp) (by simp),by simp [ofM]⟩
theorem sm_5:SmM (ofM [dF 2])∧∀ d∈(ofM [dF 2]).decls,nodesN d.body≤1000000:=⟨ofM_sm (by simp;exact smd_F 2 (by unfold inI;omega)) (by simp),by simp only [ofM,List.mem_cons,List.not_mem_nil,or_false,forall_eq];exact nodes_F 2⟩
theorem sm_6:SmM (ofM [dG,dH])∧∀ d∈(ofM [dG,dH]).decls,nodesN d.body≤1000000:=⟨ofM_sm (by simp;exact ⟨smd_G,smd_H⟩) (by simp),by simp only [ofM,List.mem_cons,List.not_mem_nil,or_false,forall_eq_or_imp,forall_eq];exact ⟨nodes_G,nodes_H⟩⟩
theorem sm_7:SmM (ofM [doubtD (dF 2)])∧∀ d∈(ofM [doubtD (dF 2)]).decls,nodesN d.body≤1000000:=⟨ofM_sm (by simp;exact smd_doubt (smd_F 2 (by unfold inI;omega))) (by simp),by simp only [ofM,List.mem_cons,List.not_mem_nil,or_false,forall_eq];exact nodes_F 2⟩
def fnOf:Value:=.func (.func 80) #[] #[]
structure AwW (w:World) (B:Nat) (W:World):Prop where
  low:Below w.heap.size w W
  n:CBox W B 66 #[.int .i64 1,.string ⟨#[]⟩,.string ⟨#[]⟩,.int .i64 1,.int .i64 0,.slice none 0 0]
  k:CBox W (B + 1) 66 #[.int .i64 1,.string ⟨#[]⟩,.string ⟨#[]⟩,.int .i64 2,.int .i64 0,.slice none 0 0]
  row:CBox W (B + 1 + 1) 66 #[.int .i64 5,.string ⟨#[]⟩,.string ⟨#[]⟩,.int .i64 1,.int .i64 0,.slice none 0 0,.int .i64 1,.string ⟨#[]⟩,.string ⟨#[]⟩,.int .i64 1,.int .i64 0,.slice none 0 0]
  c:CBox W (B + 1 + 1 + 1) 66 #[.int .i64 7,.string ⟨#[]⟩,.string ⟨#[]⟩,.int .i64 0,.int .i64 0,.slice (some ⟨B + 1 + 1,0,none⟩) 2 2]
  eq:w.heap.size = B
theorem AwW.below {w W W':World} {B:Nat} (h:AwW w B W) (m:Bw W W'):AwW w B W':=⟨h.low.trans (m.mono h.low.size),h.n.below m,h.k.below m,h.row.below m,h.c.below m,h.eq⟩
theorem exN_in (w:World) (X:List Nat) (i:Int):ExIn w X (xN i) none 0:=⟨Reads.nilRow _ _ _ _,Nat.le_refl _,Nat.zero_le _⟩
theorem exC_in {w W:World} {X:List Nat} {B:Nat} (h:AwW w B W) (hX:B + 1 + 1 ∉ X):ExIn W X xC (some ⟨B + 1 + 1,0,none⟩) 2:=by
 refine ⟨?_,Nat.le_refl _,by omega⟩;refine Reads.ofRow (l:=[xR,xN 1]) (xs:=#[.int .i64 5,.string ⟨#[]⟩,.string ⟨#[]⟩,.int .i64 1,.int .i64 0,.slice none 0 0,.int .i64 1,.string ⟨#[]⟩,.string ⟨#[]⟩,.int .i64 1,.int .i64 0,.slice none 0 0].toList) ⟨rfl,some ⟨B + 1 + 1,0,none⟩,2,rfl,Nat.le_refl _,by unfold maxLen;omega,fun _ => ⟨B + 1 + 1,0,rfl,h.row.lt,fun j v hj => ?_⟩⟩ (fun _ k hk hx => ?_) ?_
 ·rw [Nat.zero_add]
  exact h.row.cell (by rw [← Array.getElem?_toList];exact hj)
 ·simp [Value.ownBlock] at hk
  subst hk;exact hX hx
 ·rw [List.flatMap_cons,List.flatMap_cons,List.flatMap_nil,List.append_nil]
  exact ReadsL.append (cells_expr (x:=xN 1) (a:=none) (c:=0) (Reads.nilRow _ _ _ _)) (cells_expr (x:=xR) (a:=none) (c:=0) (Reads.nilRow _ _ _ _))
def R4 (B:Nat) (X:List Nat) (i:Nat) (v:Value) (w:World):Prop:=match i with
 | 0 => v = fnOf
 | 1 => ExR X (xN 1) none 0 v w
 | 2 => DcR X (dF 1) v w
 | 3 => DsR X [dF 1] v w
 | 4 => MoR X (ofM [dF 1]) v w
 | 5 => v = fnOf
 | 6 => ExR X (xN 1) none 0 v w
 | 7 => DcR X (dG) v w
 | 8 => DsR X [dG] v w
 | 9 => MoR X (ofM [dG]) v w
 | 10 => v = fnOf
 | 11 => ExR X (xN 1) none 0 v w
 | 12 => DcR X (dF 1) v w
 | 13 => ExR X xC (some ⟨B + 1 + 1,0,none⟩) 2 v w
 | 14 => DcR X (dH) v w
 | 15 => DsR X [dF 1,dH] v w
 | 16 => MoR X (ofM [dF 1,dH]) v w
 | 17 => MqR X (ofM [dG,dH]) 0 v w
 | 18 => MqR X (ofM [dG,dH]) 0 v w
 | 19 => MoR X (ofM [dG,dH]) v w
 | 20 => v = .int .i64 0
 | 21 => True
 | _ => True
theorem R4_below {B:Nat} {X:List Nat} {i:Nat} {v:Value} {w w':World} (h:R4 B X i v w) (k:Bw w w'):R4 B X i v w':=by
 unfold R4 at *;split at h <;> first | exact h | exact h.below k
theorem R4_more {B:Nat} {i k:Nat} {v:Value} {w:World} (h:R4 B [] i v w) (hk:w.heap.size≤k):R4 B [k] i v w:=by
 unfold R4 at *;split at h <;> first | exact h | exact h.more hk
theorem R4_mod {B:Nat} {i k:Nat} {v:Value} {w w':World} (h:R4 B [k] i v w) (m:Mod [k] w w'):R4 B [k] i v w':=by
 unfold R4 at *;split at h <;> first | exact h | exact h.mod m
def R5 (_B:Nat) (X:List Nat) (i:Nat) (v:Value) (w:World):Prop:=match i with
 | 0 => v = fnOf
 | 1 => ExR X (xN 1) none 0 v w
 | 2 => DcR X (dF 1) v w
 | 3 => DsR X [dF 1] v w
 | 4 => MoR X (ofM [dF 1]) v w
 | 5 => v = fnOf
 | 6 => MoR X (ofM []) v w
 | 7 => v = fnOf
 | 8 => ExR X (xN 2) none 0 v w
 | 9 => DcR X (dF 2) v w
 | 10 => DsR X [dF 2] v w
 | 11 => MoR X (ofM [dF 2]) v w
 | 12 => MqR X (ofM [doubtD (dF 2)]) 0 v w
 | 13 => MqR X (ofM [doubtD (dF 2)]) 0 v w
 | 14 => MoR X (ofM [doubtD (dF 2)]) v w
 | 15 => v = .int .i64 0
 | 16 => True
 | _ => True
theorem R5_below {B:Nat} {X:List Nat} {i:Nat} {v:Value} {w w':World} (h:R5 B X i v w) (k:Bw w w'):R5 B X i v w':=by
 unfold R5 at *;split at h <;> first | exact h | exact h.below k
theorem R5_more {B:Nat} {i k:Nat} {v:Value} {w:World} (h:R5 B [] i v w) (hk:w.heap.size≤k):R5 B [k] i v w:=by
 unfold R5 at *;split at h <;> first | exact h | exact h.more hk
theorem R5_mod {B:Nat} {i k:Nat} {v:Value} {w w':World} (h:R5 B [k] i v w) (m:Mod [k] w w'):R5 B [k] i v w':=by
 unfold R5 at *;split at h <;> first | exact h | exact h.mod m
def R9 (B i:Nat) (v:Value) (w:World):Prop:=match i with
 | 0 => v = .int .i64 0
 | 1 => v = .bool true
 | 2 => v = .bool true
 | 3 => v = .int .i64 0
 | 4 => v = .bool true
 | 5 => v = .bool true
 | 6 => v = .bool true
 | 7 => MoR [] (ofM [dG,dH]) v w
 | 8 => v = fnOf
 | 9 => ExR [] (xN 1) none 0 v w
 | 10 => DcR [] (dG) v w
 | 11 => ExR [] xC (some ⟨B + 1 + 1,0,none⟩) 2 v w
 | 12 => DcR [] (dH) v w
 | 13 => DsR [] [dG,dH] v w
 | 14 => MoR [] (ofM [dG,dH]) v w
 | 15 => v = .bool true
 | 16 => v = .bool true
 | 17 => v = .bool true
 | 18 => MoR [] (ofM [dG,dH]) v w
 | 19 => v = .bool true
 | 20 => v = .bool true
 | 21 => v = .bool true
 | 22 => MoR [] (ofM [doubtD (dF 2)]) v w
 | 23 => v = fnOf
 | 24 => DcR [] (doubtD (dF 2)) v w
 | 25 => DsR [] [doubtD (dF 2)] v w
 | 26 => MoR [] (ofM [doubtD (dF 2)]) v w
 | 27 => v = .bool true
 | 28 => v = .bool true
 | 29 => v = .bool true
 | 30 => SpR [⟨⟨#[109]⟩,3,1,0⟩] v w
 | 31 => v = .agg #[.string ⟨#[109]⟩,.int .i64 3,.int .i64 1,.int .i64 0]
 | 32 => SpR [⟨⟨#[109]⟩,3,1,0⟩] v w
 | 33 => v = .bool true
 | 34 => v = .bool true
 | 35 => v = .bool true
 | 36 => MoR [] (ofM [doubtD (dF 2)]) v w
 | 37 => v = .bool false
 | 38 => v = .bool true
 | 39 => v = .bool true
 | _ => True
theorem R9_below {B i:Nat} {v:Value} {w w':World} (h:R9 B i v w) (k:Bw w w'):R9 B i v w':=by
 unfold R9 at *;split at h <;> first | exact h | exact h.below k
set_option maxRecDepth 100000 in
set_option maxHeartbeats 8000000 in
theorem awake33_any (w:World):Calls Tryz.prog 33 #[] w fun e w' => e = .returned (.bool true)∧Bw w w':=by
 go_enter Tryz.func33,Tryz.ntmps33
 go_upto_region 4 with (fail)
 have HW:Hid (AwW w w.heap.size ((((w.alloc (.cells #[.int .i64 1,.string ⟨#[]⟩,.string ⟨#[]⟩,.int .i64 1,.int .i64 0,.slice none 0 0] 66)).alloc (.cells #[.int .i64 1,.string ⟨#[]⟩,.string ⟨#[]⟩,.int .i64 2,.int .i64 0,.slice none 0 0] 66)).alloc (.cells #[.int .i64 5,.string ⟨#[]⟩,.string ⟨#[]⟩,.int .i64 1,.int .i64 0,.slice none 0 0,.int .i64 1,.string ⟨#[]⟩,.string ⟨#[]⟩,.int .i64 1,.int .i64 0,.slice none 0 0] 66)).alloc (.cells #[.int .i64 7,.string ⟨#[]⟩,.string ⟨#[]⟩,.int .i64 0,.int .i64 0,.slice (some ⟨w.heap.size + 1 + 1,0,none⟩) 2 2] 66))):=by
  obtain ⟨g1,g2,g3,g4,hA,_⟩:=four_boxes w 66 #[.int .i64 1,.string ⟨#[]⟩,.string ⟨#[]⟩,.int .i64 1,.int .i64 0,.slice none 0 0] #[.int .i64 1,.string ⟨#[]⟩,.string ⟨#[]⟩,.int .i64 2,.int .i64 0,.slice none 0 0] #[.int .i64 5,.string ⟨#[]⟩,.string ⟨#[]⟩,.int .i64 1,.int .i64 0,.slice none 0 0,.int .i64 1,.string ⟨#[]⟩,.string ⟨#[]⟩,.int .i64 1,.int .i64 0,.slice none 0 0] #[.int .i64 7,.string ⟨#[]⟩,.string ⟨#[]⟩,.int .i64 0,.int .i64 0,.slice (some ⟨w.heap.size + 1 + 1,0,none⟩) 2 2];exact ⟨hA,g1,g2,g3,g4,rfl⟩
 generalize (((w.alloc (.cells #[.int .i64 1,.string ⟨#[]⟩,.string ⟨#[]⟩,.int .i64 1,.int .i64 0,.slice none 0 0] 66)).alloc (.cells #[.int .i64 1,.string ⟨#[]⟩,.string ⟨#[]⟩,.int .i64 2,.int .i64 0,.slice none 0 0] 66)).alloc (.cells #[.int .i64 5,.string ⟨#[]⟩,.string ⟨#[]⟩,.int .i64 1,.int .i64 0,.slice none 0 0,.int .i64 1,.string ⟨#[]⟩,.string ⟨#[]⟩,.int .i64 1,.int .i64 0,.slice none 0 0] 66)).alloc (.cells #[.int .i64 7,.string ⟨#[]⟩,.string ⟨#[]⟩,.int .i64 0,.int .i64 0,.slice (some ⟨w.heap.size + 1 + 1,0,none⟩) 2 2] 66) = W0 at *
 obtain ⟨B,hB⟩:∃ B,w.heap.size = B:=⟨_,rfl⟩;rw [hB] at HW ⊢;clear hB;refine wp_region_noPanic (region_relF 23 21 22 19 (fun k W => CBox W k 52 mZ) (fun v k W => BxR v k W) (R4 B) (by decide) (by decide) (by decide) (by decide) (by decide) (by decide) mixedK (by kernel_rfl) (fun _ _ _ h => h) (by kernel_rfl) ?_ (fun X i v w w' h k => R4_below h k) (fun i v w k h hk => R4_more h hk) (fun i v w w' k h m => R4_mod h m) (fun k w w' h _ hb => h.below hb) (fun v k w w' ⟨v0,v1,v2,e,h⟩ _ hb => ⟨v0,v1,v2,e,h.below hb⟩) ?_ ?_ ?_ (by kernel_rfl) ?_)
 ·intro o ho
  obtain rfl:=Option.some.inj ho;exact ⟨by decide,by decide⟩
 ·intro o ho
  obtain rfl:=Option.some.inj ho;exact ⟨rfl,fun a w1 K hK => opw_allocM rfl (hK.out _ (qalloc _ _) (by rw [World.size_alloc];omega) (CBox.new _ _ _))⟩
 ·intro o ho
  obtain rfl:=Option.some.inj ho;refine ⟨rfl,fun fa vals w1 k hf hkl hvA hbx hC K hK => ?_⟩;have e1:=hf.at_ 21 5 (by decide) rfl;have e2:=hf.at_ 19 36 (by decide) rfl;have hC2:MoR [k] (ofM [dG,dH]) (vals 19) w1:=hC;clear hf hC;exact st_store rfl (e1.trans hvA) e2 hbx hC2 (fun v w' h1 h2 => hK.out v w' h1 h2)
 ·show AllF _ _ _ _ _ _ _ _ 0 (_ :: _)
  refine AllF.step ?_ ?_
  ·intro fa X vals w1 hf hbw hX hXb hn
   refine ⟨rfl,fun K hK => ?_⟩;exact opw_move (x:=.tmp 4) rfl (hK.out _ _ (qrefl _) ((hf.out 4 (by kernel_rfl)).trans rfl))
  refine AllF.step ?_ ?_
  ·intro fa X vals w1 hf hbw hX hXb hn
   refine ⟨rfl,fun K hK => ?_⟩;exact opw_loadX (x:=.tmp 1) (B:=B) rfl ((hf.out 1 (by kernel_rfl)).trans rfl) (HW.out.below hbw).n (hK.out _ _ (qrefl _) ⟨rfl,exN_in _ _ _⟩)
  refine AllF.step ?_ ?_
  ·intro fa X vals w1 hf hbw hX hXb hn
   refine ⟨rfl,fun K hK => ?_⟩;exact st_let (x:=xN 1) (a:=none) (c:=0) rfl hX (by rw [(hf.at_ 1 19 (by decide) rfl)];exact (hn 1 (by decide) (by decide))) (fun v w' hb hd => hK.out v w' hb hd)
  refine AllF.step ?_ ?_
  ·intro fa X vals w1 hf hbw hX hXb hn
   refine ⟨rfl,fun K hK => ?_⟩;exact st_slice1 (d:=dF 1) rfl hX (by rw [(hf.at_ 2 20 (by decide) rfl)];exact (hn 2 (by decide) (by decide))) (fun v w' hb hd => hK.out v w' hb hd)
  refine AllF.step ?_ ?_
  ·intro fa X vals w1 hf hbw hX hXb hn
   refine ⟨rfl,fun K hK => ?_⟩;exact st_of (ds:=[dF 1]) rfl ((hf.at_ 0 18 (by decide) rfl).trans (hn 0 (by decide) (by decide))) (by rw [(hf.at_ 3 21 (by decide) rfl)];exact (hn 3 (by decide) (by decide))) (fun v w' hb hd => hK.out v w' hb hd)
  refine AllF.step ?_ ?_
  ·intro fa X vals w1 hf hbw hX hXb hn
   refine ⟨rfl,fun K hK => ?_⟩;exact opw_move (x:=.tmp 4) rfl (hK.out _ _ (qrefl _) ((hf.out 4 (by kernel_rfl)).trans rfl))
  refine AllF.step ?_ ?_
  ·intro fa X vals w1 hf hbw hX hXb hn
   refine ⟨rfl,fun K hK => ?_⟩;exact opw_loadX (x:=.tmp 1) (B:=B) rfl ((hf.out 1 (by kernel_rfl)).trans rfl) (HW.out.below hbw).n (hK.out _ _ (qrefl _) ⟨rfl,exN_in _ _ _⟩)
  refine AllF.step ?_ ?_
  ·intro fa X vals w1 hf hbw hX hXb hn
   refine ⟨rfl,fun K hK => ?_⟩;exact st_let (x:=xN 1) (a:=none) (c:=0) rfl hX (by rw [(hf.at_ 6 24 (by decide) rfl)];exact (hn 6 (by decide) (by decide))) (fun v w' hb hd => hK.out v w' hb hd)
  refine AllF.step ?_ ?_
  ·intro fa X vals w1 hf hbw hX hXb hn
   refine ⟨rfl,fun K hK => ?_⟩;exact st_slice1 (d:=dG) rfl hX (by rw [(hf.at_ 7 25 (by decide) rfl)];exact (hn 7 (by decide) (by decide))) (fun v w' hb hd => hK.out v w' hb hd)
  refine AllF.step ?_ ?_
  ·intro fa X vals w1 hf hbw hX hXb hn
   refine ⟨rfl,fun K hK => ?_⟩;exact st_of (ds:=[dG]) rfl ((hf.at_ 5 23 (by decide) rfl).trans (hn 5 (by decide) (by decide))) (by rw [(hf.at_ 8 26 (by decide) rfl)];exact (hn 8 (by decide) (by decide))) (fun v w' hb hd => hK.out v w' hb hd)
  refine AllF.step ?_ ?_
  ·intro fa X vals w1 hf hbw hX hXb hn
   refine ⟨rfl,fun K hK => ?_⟩;exact opw_move (x:=.tmp 4) rfl (hK.out _ _ (qrefl _) ((hf.out 4 (by kernel_rfl)).trans rfl))
  refine AllF.step ?_ ?_
  ·intro fa X vals w1 hf hbw hX hXb hn
   refine ⟨rfl,fun K hK => ?_⟩;exact opw_loadX (x:=.tmp 1) (B:=B) rfl ((hf.out 1 (by kernel_rfl)).trans rfl) (HW.out.below hbw).n (hK.out _ _ (qrefl _) ⟨rfl,exN_in _ _ _⟩)
  refine AllF.step ?_ ?_
  ·intro fa X vals w1 hf hbw hX hXb hn
   refine ⟨rfl,fun K hK => ?_⟩;exact st_let (x:=xN 1) (a:=none) (c:=0) rfl hX (by rw [(hf.at_ 11 29 (by decide) rfl)];exact (hn 11 (by decide) (by decide))) (fun v w' hb hd => hK.out v w' hb hd)
  refine AllF.step ?_ ?_
  ·intro fa X vals w1 hf hbw hX hXb hn
   refine ⟨rfl,fun K hK => ?_⟩;exact opw_loadX (x:=.tmp 3) (B:=B + 1 + 1 + 1) rfl ((hf.out 3 (by kernel_rfl)).trans rfl) (HW.out.below hbw).c (hK.out _ _ (qrefl _) ⟨rfl,exC_in (HW.out.below hbw) (fun h => by have:=hXb _ h;have:=HW.out.c.lt;omega)⟩)
  refine AllF.step ?_ ?_
  ·intro fa X vals w1 hf hbw hX hXb hn
   refine ⟨rfl,fun K hK => ?_⟩;exact st_let (x:=xC) (a:=(some ⟨B + 1 + 1,0,none⟩)) (c:=2) rfl hX (by rw [(hf.at_ 13 31 (by decide) rfl)];exact (hn 13 (by decide) (by decide))) (fun v w' hb hd => hK.out v w' hb hd)
  refine AllF.step ?_ ?_
  ·intro fa X vals w1 hf hbw hX hXb hn
   refine ⟨rfl,fun K hK => ?_⟩;exact st_slice2 (d:=dF 1) (f:=dH) rfl hX (by rw [(hf.at_ 12 30 (by decide) rfl)];exact (hn 12 (by decide) (by decide))) (by rw [(hf.at_ 14 32 (by decide) rfl)];exact (hn 14 (by decide) (by decide))) (fun v w' hb hd => hK.out v w' hb hd)
  refine AllF.step ?_ ?_
  ·intro fa X vals w1 hf hbw hX hXb hn
   refine ⟨rfl,fun K hK => ?_⟩;exact st_of (ds:=[dF 1,dH]) rfl ((hf.at_ 10 28 (by decide) rfl).trans (hn 10 (by decide) (by decide))) (by rw [(hf.at_ 15 33 (by decide) rfl)];exact (hn 15 (by decide) (by decide))) (fun v w' hb hd => hK.out v w' hb hd)
  refine AllF.step ?_ ?_
  ·intro fa X vals w1 hf hbw hX hXb hn
   refine ⟨rfl,fun K hK => ?_⟩;refine st_merge (X:=X) (b:=(ofM [dF 1])) (l:=(ofM [dG])) (r:=(ofM [dF 1,dH])) rfl hX sm_1 sm_2 sm_3 (by rw [(hf.at_ 4 22 (by decide) rfl)];exact (hn 4 (by decide) (by decide))) (by rw [(hf.at_ 9 27 (by decide) rfl)];exact (hn 9 (by decide) (by decide))) (by rw [(hf.at_ 16 34 (by decide) rfl)];exact (hn 16 (by decide) (by decide))) (fun v w' hb hd => hK.out v w' hb ?_);rw [aw_out1,aw_err1] at hd;exact hd
  refine AllF.step ?_ ?_
  ·intro fa X vals w1 hf hbw hX hXb hn
   refine ⟨rfl,fun K hK => ?_⟩;exact opw_move (x:=.tmp 35) rfl (hK.out _ _ (qrefl _) (by rw [(hf.at_ 17 35 (by decide) rfl)];exact (hn 17 (by decide) (by decide))))
  refine AllF.step ?_ ?_
  ·intro fa X vals w1 hf hbw hX hXb hn
   refine ⟨rfl,fun K hK => ?_⟩;obtain ⟨v1,e1,h1⟩:=(hn 18 (by decide) (by decide));exact opw_extract (x:=.tmp 17) rfl ((hf.at_ 18 17 (by decide) rfl).trans e1) rfl (hK.out _ _ (qrefl _) h1)
  refine AllF.step ?_ ?_
  ·intro fa X vals w1 hf hbw hX hXb hn
   refine ⟨rfl,fun K hK => ?_⟩;obtain ⟨v1,e1,h1⟩:=(hn 18 (by decide) (by decide));exact opw_extract (x:=.tmp 17) rfl ((hf.at_ 18 17 (by decide) rfl).trans e1) rfl (hK.out _ _ (qrefl _) rfl)
  refine AllF.skip ?_;exact trivial
 ·intro k1 vals w1 hbw hbk hkl hvA hbx hr
  obtain ⟨m0,m1,m2,em,hbox⟩:=hbx;obtain ⟨au1,cu1,ad1,cd1,e19,hm1⟩:=(hr 19 (by decide) (by decide) (by decide):MoR [k1] (ofM [dG,dH]) (vals 19) w1);have e20:vals 20 = .int .i64 0:=hr 20 (by decide) (by decide) (by decide);have hfn:vals 0 = fnOf:=hr 0 (by decide) (by decide) (by decide);rw [e19] at em;simp only [modV,Value.agg.injEq,Array.mk.injEq,List.cons.injEq,and_true] at em
  obtain ⟨rfl,rfl,rfl⟩:=em
  refine wpList_frame (fa:=({ tmps:=#[.bool false,.pointer (some ⟨B,0,none⟩),.pointer (some ⟨B + 1,0,none⟩),.pointer (some ⟨B + 1 + 1 + 1,0,none⟩),fnOf,vals 21,undef,undef,undef,undef,undef,.agg #[.int .i64 1,.string ⟨#[]⟩,.string ⟨#[]⟩,.int .i64 1,.int .i64 0,.slice none 0 0],.agg #[.int .i64 1,.string ⟨#[]⟩,.string ⟨#[]⟩,.int .i64 2,.int .i64 0,.slice none 0 0],.agg #[.int .i64 5,.string ⟨#[]⟩,.string ⟨#[]⟩,.int .i64 1,.int .i64 0,.slice none 0 0],.agg #[.int .i64 1,.string ⟨#[]⟩,.string ⟨#[]⟩,.int .i64 1,.int .i64 0,.slice none 0 0],.slice (some ⟨B + 1 + 1,0,none⟩) 2 2,.agg #[.int .i64 7,.string ⟨#[]⟩,.string ⟨#[]⟩,.int .i64 0,.int .i64 0,.slice (some ⟨B + 1 + 1,0,none⟩) 2 2],vals 18,vals 0,vals 1,vals 2,vals 3,vals 4,vals 5,vals 6,vals 7,vals 8,vals 9,vals 10,vals 11,vals 12,vals 13,vals 14,vals 15,vals 16,vals 17,vals 19,vals 20,undef,undef,undef,undef,undef,undef,undef,undef,undef,undef,undef,undef,undef,undef,undef,undef,undef,undef,undef,undef,undef,undef,undef,undef,undef,undef,undef,undef,undef,undef,undef,undef,undef,undef,undef,undef,undef,undef,undef,undef,undef,undef,undef,undef,undef,undef,undef,undef,undef,undef,undef,undef,undef,undef,undef,undef,undef,undef,undef,undef,undef],defers:=[] }:Act)) (by kernel_rfl) ?_
  have HBX1:=lH hbox;have HM1:=lH hm1;have HW1:=lH (HW.out.below hbw);have HK1:Hid (B + 1 + 1 + 1 < k1):=by have:=HW.out.c.lt;show _ < _;omega
  clear hr hbw hbk hkl hbox hm1 HW;have HW:=HW1;clear HW1;rw [e20,hvA];clear e20 hvA e19 hfn;generalize vals 0 = u10;generalize vals 1 = u11;generalize vals 2 = u12;generalize vals 3 = u13;generalize vals 4 = u14;generalize vals 5 = u15;generalize vals 6 = u16;generalize vals 7 = u17;generalize vals 8 = u18;generalize vals 9 = u19;generalize vals 10 = u110;generalize vals 11 = u111;generalize vals 12 = u112;generalize vals 13 = u113;generalize vals 14 = u114;generalize vals 15 = u115;generalize vals 16 = u116;generalize vals 17 = u117;generalize vals 18 = u118
  generalize vals 19 = u119;simp only [List.drop_succ_cons,List.drop_zero]
  go_wp2;refine NoPanic.normal ?_;go_upto_region 5 with (fail)
  refine wp_region_noPanic (region_relF 18 16 17 14 (fun k W => CBox W k 52 mZ) (fun v k W => BxR v k W) (R5 B) (by decide) (by decide) (by decide) (by decide) (by decide) (by decide) mixedK (by kernel_rfl) (fun _ _ _ h => h) (by kernel_rfl) ?_ (fun X i v w w' h k => R5_below h k) (fun i v w k h hk => R5_more h hk) (fun i v w w' k h m => R5_mod h m) (fun k w w' h _ hb => h.below hb) (fun v k w w' ⟨v0,v1,v2,e,h⟩ _ hb => ⟨v0,v1,v2,e,h.below hb⟩) ?_ ?_ ?_ (by kernel_rfl) ?_)
  ·intro o ho
   obtain rfl:=Option.some.inj ho;exact ⟨by decide,by decide⟩
  ·intro o ho
   obtain rfl:=Option.some.inj ho;exact ⟨rfl,fun a w1 K hK => opw_allocM rfl (hK.out _ (qalloc _ _) (by rw [World.size_alloc];omega) (CBox.new _ _ _))⟩
  ·intro o ho
   obtain rfl:=Option.some.inj ho;refine ⟨rfl,fun fa vals w1 k hf hkl hvA hbx hC K hK => ?_⟩;have e1:=hf.at_ 16 7 (by decide) rfl;have e2:=hf.at_ 14 52 (by decide) rfl;have hC2:MoR [k] (ofM [doubtD (dF 2)]) (vals 14) w1:=hC;clear hf hC;exact st_store rfl (e1.trans hvA) e2 hbx hC2 (fun v w' h1 h2 => hK.out v w' h1 h2)
  ·show AllF _ _ _ _ _ _ _ _ 0 (_ :: _)
   refine AllF.step ?_ ?_
   ·intro fa X vals w1 hf hbw hX hXb hn
    refine ⟨rfl,fun K hK => ?_⟩;exact opw_move (x:=.tmp 4) rfl (hK.out _ _ (qrefl _) ((hf.out 4 (by kernel_rfl)).trans rfl))
   refine AllF.step ?_ ?_
   ·intro fa X vals w1 hf hbw hX hXb hn
    refine ⟨rfl,fun K hK => ?_⟩;exact opw_loadX (x:=.tmp 1) (B:=B) rfl ((hf.out 1 (by kernel_rfl)).trans rfl) (HW.out.below hbw).n (hK.out _ _ (qrefl _) ⟨rfl,exN_in _ _ _⟩)
   refine AllF.step ?_ ?_
   ·intro fa X vals w1 hf hbw hX hXb hn
    refine ⟨rfl,fun K hK => ?_⟩;exact st_let (x:=xN 1) (a:=none) (c:=0) rfl hX (by rw [(hf.at_ 1 40 (by decide) rfl)];exact (hn 1 (by decide) (by decide))) (fun v w' hb hd => hK.out v w' hb hd)
   refine AllF.step ?_ ?_
   ·intro fa X vals w1 hf hbw hX hXb hn
    refine ⟨rfl,fun K hK => ?_⟩;exact st_slice1 (d:=dF 1) rfl hX (by rw [(hf.at_ 2 41 (by decide) rfl)];exact (hn 2 (by decide) (by decide))) (fun v w' hb hd => hK.out v w' hb hd)
   refine AllF.step ?_ ?_
   ·intro fa X vals w1 hf hbw hX hXb hn
    refine ⟨rfl,fun K hK => ?_⟩;exact st_of (ds:=[dF 1]) rfl ((hf.at_ 0 39 (by decide) rfl).trans (hn 0 (by decide) (by decide))) (by rw [(hf.at_ 3 42 (by decide) rfl)];exact (hn 3 (by decide) (by decide))) (fun v w' hb hd => hK.out v w' hb hd)
   refine AllF.step ?_ ?_
   ·intro fa X vals w1 hf hbw hX hXb hn
    refine ⟨rfl,fun K hK => ?_⟩;exact opw_move (x:=.tmp 4) rfl (hK.out _ _ (qrefl _) ((hf.out 4 (by kernel_rfl)).trans rfl))
   refine AllF.step ?_ ?_
   ·intro fa X vals w1 hf hbw hX hXb hn
    refine ⟨rfl,fun K hK => ?_⟩;exact st_of (X:=X) (ds:=[]) rfl ((hf.at_ 5 44 (by decide) rfl).trans (hn 5 (by decide) (by decide))) ⟨none,0,rfl,Reads.nilRow _ _ _ _,Nat.le_refl _,Nat.zero_le _⟩ (fun v w' hb hd => hK.out v w' hb hd)
   refine AllF.step ?_ ?_
   ·intro fa X vals w1 hf hbw hX hXb hn
    refine ⟨rfl,fun K hK => ?_⟩;exact opw_move (x:=.tmp 4) rfl (hK.out _ _ (qrefl _) ((hf.out 4 (by kernel_rfl)).trans rfl))
   refine AllF.step ?_ ?_
   ·intro fa X vals w1 hf hbw hX hXb hn
    refine ⟨rfl,fun K hK => ?_⟩;exact opw_loadX (x:=.tmp 2) (B:=B + 1) rfl ((hf.out 2 (by kernel_rfl)).trans rfl) (HW.out.below hbw).k (hK.out _ _ (qrefl _) ⟨rfl,exN_in _ _ _⟩)
   refine AllF.step ?_ ?_
   ·intro fa X vals w1 hf hbw hX hXb hn
    refine ⟨rfl,fun K hK => ?_⟩;exact st_let (x:=xN 2) (a:=none) (c:=0) rfl hX (by rw [(hf.at_ 8 47 (by decide) rfl)];exact (hn 8 (by decide) (by decide))) (fun v w' hb hd => hK.out v w' hb hd)
   refine AllF.step ?_ ?_
   ·intro fa X vals w1 hf hbw hX hXb hn
    refine ⟨rfl,fun K hK => ?_⟩;exact st_slice1 (d:=dF 2) rfl hX (by rw [(hf.at_ 9 48 (by decide) rfl)];exact (hn 9 (by decide) (by decide))) (fun v w' hb hd => hK.out v w' hb hd)
   refine AllF.step ?_ ?_
   ·intro fa X vals w1 hf hbw hX hXb hn
    refine ⟨rfl,fun K hK => ?_⟩;exact st_of (ds:=[dF 2]) rfl ((hf.at_ 7 46 (by decide) rfl).trans (hn 7 (by decide) (by decide))) (by rw [(hf.at_ 10 49 (by decide) rfl)];exact (hn 10 (by decide) (by decide))) (fun v w' hb hd => hK.out v w' hb hd)
   refine AllF.step ?_ ?_
   ·intro fa X vals w1 hf hbw hX hXb hn
    refine ⟨rfl,fun K hK => ?_⟩;refine st_merge (X:=X) (b:=(ofM [dF 1])) (l:=(ofM [])) (r:=(ofM [dF 2])) rfl hX sm_1 sm_4 sm_5 (by rw [(hf.at_ 4 43 (by decide) rfl)];exact (hn 4 (by decide) (by decide))) (by rw [(hf.at_ 6 45 (by decide) rfl)];exact (hn 6 (by decide) (by decide))) (by rw [(hf.at_ 11 50 (by decide) rfl)];exact (hn 11 (by decide) (by decide))) (fun v w' hb hd => hK.out v w' hb ?_);rw [aw_out2,aw_err2] at hd;exact hd
   refine AllF.step ?_ ?_
   ·intro fa X vals w1 hf hbw hX hXb hn
    refine ⟨rfl,fun K hK => ?_⟩;exact opw_move (x:=.tmp 51) rfl (hK.out _ _ (qrefl _) (by rw [(hf.at_ 12 51 (by decide) rfl)];exact (hn 12 (by decide) (by decide))))
   refine AllF.step ?_ ?_
   ·intro fa X vals w1 hf hbw hX hXb hn
    refine ⟨rfl,fun K hK => ?_⟩;obtain ⟨v1,e1,h1⟩:=(hn 13 (by decide) (by decide));exact opw_extract (x:=.tmp 38) rfl ((hf.at_ 13 38 (by decide) rfl).trans e1) rfl (hK.out _ _ (qrefl _) h1)
   refine AllF.step ?_ ?_
   ·intro fa X vals w1 hf hbw hX hXb hn
    refine ⟨rfl,fun K hK => ?_⟩;obtain ⟨v1,e1,h1⟩:=(hn 13 (by decide) (by decide));exact opw_extract (x:=.tmp 38) rfl ((hf.at_ 13 38 (by decide) rfl).trans e1) rfl (hK.out _ _ (qrefl _) rfl)
   refine AllF.skip ?_;exact trivial
  ·intro k2 vals w2 hbw hbk hkl hvA hbx hr
   obtain ⟨m0,m1,m2,em,hbox⟩:=hbx;obtain ⟨au2,cu2,ad2,cd2,e19,hm2⟩:=(hr 14 (by decide) (by decide) (by decide):MoR [k2] (ofM [doubtD (dF 2)]) (vals 14) w2);have e20:vals 15 = .int .i64 0:=hr 15 (by decide) (by decide) (by decide);have hfn:vals 0 = fnOf:=hr 0 (by decide) (by decide) (by decide);rw [e19] at em;simp only [modV,Value.agg.injEq,Array.mk.injEq,List.cons.injEq,and_true] at em
   obtain ⟨rfl,rfl,rfl⟩:=em
   refine wpList_frame (fa:=({ tmps:=#[.bool false,.pointer (some ⟨B,0,none⟩),.pointer (some ⟨B + 1,0,none⟩),.pointer (some ⟨B + 1 + 1 + 1,0,none⟩),fnOf,.pointer (some ⟨k1,0,none⟩),.int .i64 0,vals 16,undef,undef,undef,.agg #[.int .i64 1,.string ⟨#[]⟩,.string ⟨#[]⟩,.int .i64 1,.int .i64 0,.slice none 0 0],.agg #[.int .i64 1,.string ⟨#[]⟩,.string ⟨#[]⟩,.int .i64 2,.int .i64 0,.slice none 0 0],.agg #[.int .i64 5,.string ⟨#[]⟩,.string ⟨#[]⟩,.int .i64 1,.int .i64 0,.slice none 0 0],.agg #[.int .i64 1,.string ⟨#[]⟩,.string ⟨#[]⟩,.int .i64 1,.int .i64 0,.slice none 0 0],.slice (some ⟨B + 1 + 1,0,none⟩) 2 2,.agg #[.int .i64 7,.string ⟨#[]⟩,.string ⟨#[]⟩,.int .i64 0,.int .i64 0,.slice (some ⟨B + 1 + 1,0,none⟩) 2 2],u118,u10,u11,u12,u13,u14,u15,u16,u17,u18,u19,u110,u111,u112,u113,u114,u115,u116,u117,u119,.int .i64 0,vals 13,vals 0,vals 1,vals 2,vals 3,vals 4,vals 5,vals 6,vals 7,vals 8,vals 9,vals 10,vals 11,vals 12,vals 14,vals 15,undef,undef,undef,undef,undef,undef,undef,undef,undef,undef,undef,undef,undef,undef,undef,undef,undef,undef,undef,undef,undef,undef,undef,undef,undef,undef,undef,undef,undef,undef,undef,undef,undef,undef,undef,undef,undef,undef,undef,undef,undef,undef,undef,undef,undef],defers:=[] }:Act)) (by kernel_rfl) ?_
   have HBX2:=lH hbox;have HM2:=lH hm2;have HW2:=lH (HW.out.below hbw);have HBX1:=lH (HBX1.out.below hbw);have HM1:=lH (HM1.out.below hbw);have HK2:Hid (B + 1 + 1 + 1 < k2):=by have:=HW.out.c.lt;show _ < _;omega
   clear hr hbw hbk hkl hbox hm2 HW;have HW:=HW2;clear HW2;rw [e20,hvA];clear e20 hvA e19 hfn;generalize vals 0 = u20;generalize vals 1 = u21;generalize vals 2 = u22;generalize vals 3 = u23;generalize vals 4 = u24;generalize vals 5 = u25;generalize vals 6 = u26;generalize vals 7 = u27;generalize vals 8 = u28;generalize vals 9 = u29;generalize vals 10 = u210;generalize vals 11 = u211;generalize vals 12 = u212;generalize vals 13 = u213;generalize vals 14 = u214;simp only [List.drop_succ_cons,List.drop_zero]
   go_wp2;refine NoPanic.normal ?_;go_upto_region 6 with (fail)
   have HB12:=HW.out.low;obtain ⟨y0,y1,y2,yl⟩:=cells3 HBX2.out;have HCF:=lH (mConflicts_any (ofM [doubtD (dF 2)]) au2 cu2 ad2 cd2 w2 HM2.out.free sm_7.1);unfold modV at HCF;go_wp2_with (fail)
   refine HCF.out.mono ?_;rintro e w3 ⟨sv,rfl,hsp,hb3⟩;rw [aw_spots2] at hsp;obtain ⟨sa,sc,rfl,hs1,hs2⟩:∃ (a:Option Addr) (cap:Nat),sv = .slice a 1 cap∧1≤cap∧cap≤9223372036854775807:=hsp.val;have HSP:=lH hsp;have HBX1:=lH (HBX1.out.below hb3);have HM1:=lH (HM1.out.below hb3);have HBX2:=lH (HBX2.out.below hb3);have HM2:=lH (HM2.out.below hb3);have HW:=lH (HW.out.below hb3);clear y0 y1 y2 yl HCF hsp hb3 HB12;obtain ⟨x0,x1,x2,x3,x4,x5,xl⟩:=cells6 HW.out.k
   have HLT:=lH (let33_any 1 ⟨#[102]⟩ (xN 2) none 0 [] w3 (by simp) (exN_in _ _ _));unfold exV xN at HLT;simp only [Ex.kind,Ex.name,Ex.more,Ex.num,Ex.den,Ex.subs,List.length_nil] at HLT
   go_wp2_with (fail)
   refine HLT.out.mono ?_;rintro e w4 ⟨an,rfl,hd4,hb4⟩;have HD4:=lH hd4;have HBX1:=lH (HBX1.out.below hb4);have HM1:=lH (HM1.out.below hb4);have HBX2:=lH (HBX2.out.below hb4);have HM2:=lH (HM2.out.below hb4);have HW:=lH (HW.out.below hb4);have HSP:=lH (HSP.out.below hb4);clear x0 x1 x2 x3 x4 x5 xl HLT hb4 hd4;unfold declV letD;dsimp only [xN,Ex.kind,Ex.name,Ex.more,Ex.num,Ex.den,Ex.subs,List.length_nil]
   go_upto_region 9 with (fail)
   have HN:=lH (CBox.new w4 69 #[.int .i64 1,.int .i64 1,.bool false,.slice an 1 1,.bool true,.int .i64 1,.string ⟨#[]⟩,.string ⟨#[]⟩,.int .i64 2,.int .i64 0,.slice none 0 0]);have hal:=qalloc w4 (.cells #[.int .i64 1,.int .i64 1,.bool false,.slice an 1 1,.bool true,.int .i64 1,.string ⟨#[]⟩,.string ⟨#[]⟩,.int .i64 2,.int .i64 0,.slice none 0 0] 69);have hdd:=HD4.out.below hal;have HDD:Hid (DecX _ [] (doubtD (dF 2)) an 1 none 0):=⟨hdd.names,hdd.subs,hdd.hn1,hdd.hn2,hdd.hs1,hdd.hs2⟩;have HBX1:=lH (HBX1.out.below hal)
   have HM1:=lH (HM1.out.below hal);have HBX2:=lH (HBX2.out.below hal);have HM2:=lH (HM2.out.below hal);have HW:=lH (HW.out.below hal);have HSP:=lH (HSP.out.below hal);clear hal hdd HD4;generalize World.alloc w4 _ = w5 at *;generalize w4.heap.size = N at *;refine wp_region_noPanic (region_relQ 40 (R9 B) mixedK (by kernel_rfl) (fun _ _ _ h => h) (by kernel_rfl) (fun i v w w' h k => R9_below h k) ?_ ?_)
   ·show AllQ _ _ _ _ _ _ _ 0 (_ :: _)
    refine AllQ.step ?_ ?_
    ·intro fa vals w1 hf hbw hn
     refine ⟨(fun _ _ e => by cases e),fun K hK => ?_⟩;exact opw_move (x:=.tmp 6) rfl (hK.out _ _ (qrefl _) ((hf.out 6 (by kernel_rfl)).trans rfl))
    refine AllQ.step ?_ ?_
    ·intro fa vals w1 hf hbw hn
     refine ⟨(fun _ _ e => by cases e),fun K hK => ?_⟩;exact opw_eqI rfl ((hf.at_ 0 59 (by decide) rfl).trans (hn 0 (by decide))) rfl rfl (hK.out _ _ (qrefl _) rfl)
    refine AllQ.step ?_ ?_
    ·intro fa vals w1 hf hbw hn
     refine ⟨(fun _ _ e => by cases e),fun K hK => ?_⟩;exact opw_move (x:=.tmp 60) rfl (hK.out _ _ (qrefl _) ((hf.at_ 1 60 (by decide) rfl).trans (hn 1 (by decide))))
    refine AllQ.step ?_ ?_
    ·intro fa vals w1 hf hbw hn
     refine ⟨(fun g b e => by obtain ⟨rfl,rfl⟩:=Prod.mk.inj (Option.some.inj e);exact ⟨by decide,⟨_,rfl⟩,(hn 2 (by decide))⟩),fun K hK => ?_⟩;exact opw_move (x:=.tmp 8) rfl (hK.out _ _ (qrefl _) ((hf.out 8 (by kernel_rfl)).trans rfl))
    refine AllQ.step ?_ ?_
    ·intro fa vals w1 hf hbw hn
     refine ⟨(fun g b e => by obtain ⟨rfl,rfl⟩:=Prod.mk.inj (Option.some.inj e);exact ⟨by decide,⟨_,rfl⟩,(hn 2 (by decide))⟩),fun K hK => ?_⟩;exact opw_eqI rfl ((hf.at_ 3 62 (by decide) rfl).trans (hn 3 (by decide))) rfl rfl (hK.out _ _ (qrefl _) rfl)
    refine AllQ.step ?_ ?_
    ·intro fa vals w1 hf hbw hn
     refine ⟨(fun _ _ e => by cases e),fun K hK => ?_⟩;exact opw_pick (x:=.tmp 63) rfl ((hf.at_ 2 61 (by decide) rfl).trans (hn 2 (by decide))) (hK.out _ _ (qrefl _) ((hf.at_ 4 63 (by decide) rfl).trans (hn 4 (by decide))))
    refine AllQ.step ?_ ?_
    ·intro fa vals w1 hf hbw hn
     refine ⟨(fun _ _ e => by cases e),fun K hK => ?_⟩;exact opw_move (x:=.tmp 64) rfl (hK.out _ _ (qrefl _) ((hf.at_ 5 64 (by decide) rfl).trans (hn 5 (by decide))))
    refine AllQ.step ?_ ?_
    ·intro fa vals w1 hf hbw hn
     refine ⟨(fun g b e => by obtain ⟨rfl,rfl⟩:=Prod.mk.inj (Option.some.inj e);exact ⟨by decide,⟨_,rfl⟩,(hn 6 (by decide))⟩),fun K hK => ?_⟩;exact opw_loadM (x:=.tmp 5) (B:=k1) rfl ((hf.out 5 (by kernel_rfl)).trans rfl) (HBX1.out.below hbw) (hK.out _ _ (qrefl _) ⟨_,_,_,_,rfl,HM1.out.free.below hbw⟩)
    refine AllQ.step ?_ ?_
    ·intro fa vals w1 hf hbw hn
     refine ⟨(fun g b e => by obtain ⟨rfl,rfl⟩:=Prod.mk.inj (Option.some.inj e);exact ⟨by decide,⟨_,rfl⟩,(hn 6 (by decide))⟩),fun K hK => ?_⟩;exact opw_move (x:=.tmp 4) rfl (hK.out _ _ (qrefl _) ((hf.out 4 (by kernel_rfl)).trans rfl))
    refine AllQ.step ?_ ?_
    ·intro fa vals w1 hf hbw hn
     refine ⟨(fun g b e => by obtain ⟨rfl,rfl⟩:=Prod.mk.inj (Option.some.inj e);exact ⟨by decide,⟨_,rfl⟩,(hn 6 (by decide))⟩),fun K hK => ?_⟩;exact opw_loadX (x:=.tmp 1) (B:=B) rfl ((hf.out 1 (by kernel_rfl)).trans rfl) (HW.out.below hbw).n (hK.out _ _ (qrefl _) ⟨rfl,exN_in _ _ _⟩)
    refine AllQ.step ?_ ?_
    ·intro fa vals w1 hf hbw hn
     refine ⟨(fun g b e => by obtain ⟨rfl,rfl⟩:=Prod.mk.inj (Option.some.inj e);exact ⟨by decide,⟨_,rfl⟩,(hn 6 (by decide))⟩),fun K hK => ?_⟩;exact st_let (X:=[]) (x:=xN 1) (a:=none) (c:=0) rfl (by simp) (by rw [(hf.at_ 9 68 (by decide) rfl)];exact (hn 9 (by decide))) (fun v w' hb hd => hK.out v w' hb hd)
    refine AllQ.step ?_ ?_
    ·intro fa vals w1 hf hbw hn
     refine ⟨(fun g b e => by obtain ⟨rfl,rfl⟩:=Prod.mk.inj (Option.some.inj e);exact ⟨by decide,⟨_,rfl⟩,(hn 6 (by decide))⟩),fun K hK => ?_⟩;exact opw_loadX (x:=.tmp 3) (B:=B + 1 + 1 + 1) rfl ((hf.out 3 (by kernel_rfl)).trans rfl) (HW.out.below hbw).c (hK.out _ _ (qrefl _) ⟨rfl,exC_in (HW.out.below hbw) (by simp)⟩)
    refine AllQ.step ?_ ?_
    ·intro fa vals w1 hf hbw hn
     refine ⟨(fun g b e => by obtain ⟨rfl,rfl⟩:=Prod.mk.inj (Option.some.inj e);exact ⟨by decide,⟨_,rfl⟩,(hn 6 (by decide))⟩),fun K hK => ?_⟩;exact st_let (X:=[]) (x:=xC) (a:=(some ⟨B + 1 + 1,0,none⟩)) (c:=2) rfl (by simp) (by rw [(hf.at_ 11 70 (by decide) rfl)];exact (hn 11 (by decide))) (fun v w' hb hd => hK.out v w' hb hd)
    refine AllQ.step ?_ ?_
    ·intro fa vals w1 hf hbw hn
     refine ⟨(fun g b e => by obtain ⟨rfl,rfl⟩:=Prod.mk.inj (Option.some.inj e);exact ⟨by decide,⟨_,rfl⟩,(hn 6 (by decide))⟩),fun K hK => ?_⟩;exact st_slice2 (X:=[]) (d:=dG) (f:=dH) rfl (by simp) (by rw [(hf.at_ 10 69 (by decide) rfl)];exact (hn 10 (by decide))) (by rw [(hf.at_ 12 71 (by decide) rfl)];exact (hn 12 (by decide))) (fun v w' hb hd => hK.out v w' hb hd)
    refine AllQ.step ?_ ?_
    ·intro fa vals w1 hf hbw hn
     refine ⟨(fun g b e => by obtain ⟨rfl,rfl⟩:=Prod.mk.inj (Option.some.inj e);exact ⟨by decide,⟨_,rfl⟩,(hn 6 (by decide))⟩),fun K hK => ?_⟩;exact st_of (X:=[]) (ds:=[dG,dH]) rfl ((hf.at_ 8 67 (by decide) rfl).trans (hn 8 (by decide))) (by rw [(hf.at_ 13 72 (by decide) rfl)];exact (hn 13 (by decide))) (fun v w' hb hd => hK.out v w' hb hd)
    refine AllQ.step ?_ ?_
    ·intro fa vals w1 hf hbw hn
     refine ⟨(fun g b e => by obtain ⟨rfl,rfl⟩:=Prod.mk.inj (Option.some.inj e);exact ⟨by decide,⟨_,rfl⟩,(hn 6 (by decide))⟩),fun K hK => ?_⟩;exact st_same (m:=ofM [dG,dH]) (n:=ofM [dG,dH]) rfl (by rw [(hf.at_ 7 66 (by decide) rfl)];exact (hn 7 (by decide))) (by rw [(hf.at_ 14 73 (by decide) rfl)];exact (hn 14 (by decide))) sm_6 (fun w' hb => hK.out _ w' hb (by rw [sameM_iff.2 rfl];rfl))
    refine AllQ.step ?_ ?_
    ·intro fa vals w1 hf hbw hn
     refine ⟨(fun _ _ e => by cases e),fun K hK => ?_⟩;exact opw_pick (x:=.tmp 74) rfl ((hf.at_ 6 65 (by decide) rfl).trans (hn 6 (by decide))) (hK.out _ _ (qrefl _) ((hf.at_ 15 74 (by decide) rfl).trans (hn 15 (by decide))))
    refine AllQ.step ?_ ?_
    ·intro fa vals w1 hf hbw hn
     refine ⟨(fun _ _ e => by cases e),fun K hK => ?_⟩;exact opw_move (x:=.tmp 75) rfl (hK.out _ _ (qrefl _) ((hf.at_ 16 75 (by decide) rfl).trans (hn 16 (by decide))))
    refine AllQ.step ?_ ?_
    ·intro fa vals w1 hf hbw hn
     refine ⟨(fun g b e => by obtain ⟨rfl,rfl⟩:=Prod.mk.inj (Option.some.inj e);exact ⟨by decide,⟨_,rfl⟩,(hn 17 (by decide))⟩),fun K hK => ?_⟩;exact opw_loadM (x:=.tmp 5) (B:=k1) rfl ((hf.out 5 (by kernel_rfl)).trans rfl) (HBX1.out.below hbw) (hK.out _ _ (qrefl _) ⟨_,_,_,_,rfl,HM1.out.free.below hbw⟩)
    refine AllQ.step ?_ ?_
    ·intro fa vals w1 hf hbw hn
     refine ⟨(fun g b e => by obtain ⟨rfl,rfl⟩:=Prod.mk.inj (Option.some.inj e);exact ⟨by decide,⟨_,rfl⟩,(hn 17 (by decide))⟩),fun K hK => ?_⟩;exact st_clean (m:=ofM [dG,dH]) rfl (by rw [(hf.at_ 18 77 (by decide) rfl)];exact (hn 18 (by decide))) sm_6.1 (fun w' hb => hK.out _ w' hb (by rw [aw_clean1];rfl))
    refine AllQ.step ?_ ?_
    ·intro fa vals w1 hf hbw hn
     refine ⟨(fun _ _ e => by cases e),fun K hK => ?_⟩;exact opw_pick (x:=.tmp 78) rfl ((hf.at_ 17 76 (by decide) rfl).trans (hn 17 (by decide))) (hK.out _ _ (qrefl _) ((hf.at_ 19 78 (by decide) rfl).trans (hn 19 (by decide))))
    refine AllQ.step ?_ ?_
    ·intro fa vals w1 hf hbw hn
     refine ⟨(fun _ _ e => by cases e),fun K hK => ?_⟩;exact opw_move (x:=.tmp 79) rfl (hK.out _ _ (qrefl _) ((hf.at_ 20 79 (by decide) rfl).trans (hn 20 (by decide))))
    refine AllQ.step ?_ ?_
    ·intro fa vals w1 hf hbw hn
     refine ⟨(fun g b e => by obtain ⟨rfl,rfl⟩:=Prod.mk.inj (Option.some.inj e);exact ⟨by decide,⟨_,rfl⟩,(hn 21 (by decide))⟩),fun K hK => ?_⟩;exact opw_loadM (x:=.tmp 7) (B:=k2) rfl ((hf.out 7 (by kernel_rfl)).trans rfl) (HBX2.out.below hbw) (hK.out _ _ (qrefl _) ⟨_,_,_,_,rfl,HM2.out.free.below hbw⟩)
    refine AllQ.step ?_ ?_
    ·intro fa vals w1 hf hbw hn
     refine ⟨(fun g b e => by obtain ⟨rfl,rfl⟩:=Prod.mk.inj (Option.some.inj e);exact ⟨by decide,⟨_,rfl⟩,(hn 21 (by decide))⟩),fun K hK => ?_⟩;exact opw_move (x:=.tmp 4) rfl (hK.out _ _ (qrefl _) ((hf.out 4 (by kernel_rfl)).trans rfl))
    refine AllQ.step ?_ ?_
    ·intro fa vals w1 hf hbw hn
     refine ⟨(fun g b e => by obtain ⟨rfl,rfl⟩:=Prod.mk.inj (Option.some.inj e);exact ⟨by decide,⟨_,rfl⟩,(hn 21 (by decide))⟩),fun K hK => ?_⟩;exact opw_loadD (x:=.tmp 10) (B:=N) rfl ((hf.out 10 (by kernel_rfl)).trans rfl) (HN.out.below hbw) (hK.out _ _ (qrefl _) ⟨an,1,none,0,rfl,HDD.out.below hbw⟩)
    refine AllQ.step ?_ ?_
    ·intro fa vals w1 hf hbw hn
     refine ⟨(fun g b e => by obtain ⟨rfl,rfl⟩:=Prod.mk.inj (Option.some.inj e);exact ⟨by decide,⟨_,rfl⟩,(hn 21 (by decide))⟩),fun K hK => ?_⟩;exact st_slice1 (X:=[]) (d:=doubtD (dF 2)) rfl (by simp) (by rw [(hf.at_ 24 83 (by decide) rfl)];exact (hn 24 (by decide))) (fun v w' hb hd => hK.out v w' hb hd)
    refine AllQ.step ?_ ?_
    ·intro fa vals w1 hf hbw hn
     refine ⟨(fun g b e => by obtain ⟨rfl,rfl⟩:=Prod.mk.inj (Option.some.inj e);exact ⟨by decide,⟨_,rfl⟩,(hn 21 (by decide))⟩),fun K hK => ?_⟩;exact st_of (X:=[]) (ds:=[doubtD (dF 2)]) rfl ((hf.at_ 23 82 (by decide) rfl).trans (hn 23 (by decide))) (by rw [(hf.at_ 25 84 (by decide) rfl)];exact (hn 25 (by decide))) (fun v w' hb hd => hK.out v w' hb hd)
    refine AllQ.step ?_ ?_
    ·intro fa vals w1 hf hbw hn
     refine ⟨(fun g b e => by obtain ⟨rfl,rfl⟩:=Prod.mk.inj (Option.some.inj e);exact ⟨by decide,⟨_,rfl⟩,(hn 21 (by decide))⟩),fun K hK => ?_⟩;exact st_same (m:=ofM [doubtD (dF 2)]) (n:=ofM [doubtD (dF 2)]) rfl (by rw [(hf.at_ 22 81 (by decide) rfl)];exact (hn 22 (by decide))) (by rw [(hf.at_ 26 85 (by decide) rfl)];exact (hn 26 (by decide))) sm_7 (fun w' hb => hK.out _ w' hb (by rw [sameM_iff.2 rfl];rfl))
    refine AllQ.step ?_ ?_
    ·intro fa vals w1 hf hbw hn
     refine ⟨(fun _ _ e => by cases e),fun K hK => ?_⟩;exact opw_pick (x:=.tmp 86) rfl ((hf.at_ 21 80 (by decide) rfl).trans (hn 21 (by decide))) (hK.out _ _ (qrefl _) ((hf.at_ 27 86 (by decide) rfl).trans (hn 27 (by decide))))
    refine AllQ.step ?_ ?_
    ·intro fa vals w1 hf hbw hn
     refine ⟨(fun _ _ e => by cases e),fun K hK => ?_⟩;exact opw_move (x:=.tmp 87) rfl (hK.out _ _ (qrefl _) ((hf.at_ 28 87 (by decide) rfl).trans (hn 28 (by decide))))
    refine AllQ.step ?_ ?_
    ·intro fa vals w1 hf hbw hn
     refine ⟨(fun g b e => by obtain ⟨rfl,rfl⟩:=Prod.mk.inj (Option.some.inj e);exact ⟨by decide,⟨_,rfl⟩,(hn 29 (by decide))⟩),fun K hK => ?_⟩;exact opw_move (x:=.tmp 9) rfl (hK.out _ _ (qrefl _) (by rw [(hf.out 9 (by kernel_rfl))];exact ⟨sa,sc,rfl,HSP.out.below hbw⟩))
    refine AllQ.step ?_ ?_
    ·intro fa vals w1 hf hbw hn
     refine ⟨(fun g b e => by obtain ⟨rfl,rfl⟩:=Prod.mk.inj (Option.some.inj e);exact ⟨by decide,⟨_,rfl⟩,(hn 29 (by decide))⟩),fun K hK => ?_⟩;exact opw_spot (s:=⟨#[109]⟩) (k:=3) (i:=1) rfl (hK.out _ _ (qrefl _) rfl)
    refine AllQ.step ?_ ?_
    ·intro fa vals w1 hf hbw hn
     refine ⟨(fun g b e => by obtain ⟨rfl,rfl⟩:=Prod.mk.inj (Option.some.inj e);exact ⟨by decide,⟨_,rfl⟩,(hn 29 (by decide))⟩),fun K hK => ?_⟩;exact opw_slice4 rfl ((hf.at_ 31 90 (by decide) rfl).trans (hn 31 (by decide))) (hK.out _ _ (qalloc _ _) (spots_box (CBox.new w1 _ _)))
    refine AllQ.step ?_ ?_
    ·intro fa vals w1 hf hbw hn
     refine ⟨(fun g b e => by obtain ⟨rfl,rfl⟩:=Prod.mk.inj (Option.some.inj e);exact ⟨by decide,⟨_,rfl⟩,(hn 29 (by decide))⟩),fun K hK => ?_⟩;exact st_spots (l:=[⟨⟨#[109]⟩,3,1,0⟩]) (m:=[⟨⟨#[109]⟩,3,1,0⟩]) rfl (by rw [(hf.at_ 30 89 (by decide) rfl)];exact (hn 30 (by decide))) (by rw [(hf.at_ 32 91 (by decide) rfl)];exact (hn 32 (by decide))) (by simp) (fun w' hb => hK.out _ w' hb (by rw [sameSps_iff.2 rfl];rfl))
    refine AllQ.step ?_ ?_
    ·intro fa vals w1 hf hbw hn
     refine ⟨(fun _ _ e => by cases e),fun K hK => ?_⟩;exact opw_pick (x:=.tmp 92) rfl ((hf.at_ 29 88 (by decide) rfl).trans (hn 29 (by decide))) (hK.out _ _ (qrefl _) ((hf.at_ 33 92 (by decide) rfl).trans (hn 33 (by decide))))
    refine AllQ.step ?_ ?_
    ·intro fa vals w1 hf hbw hn
     refine ⟨(fun _ _ e => by cases e),fun K hK => ?_⟩;exact opw_move (x:=.tmp 93) rfl (hK.out _ _ (qrefl _) ((hf.at_ 34 93 (by decide) rfl).trans (hn 34 (by decide))))
    refine AllQ.step ?_ ?_
    ·intro fa vals w1 hf hbw hn
     refine ⟨(fun g b e => by obtain ⟨rfl,rfl⟩:=Prod.mk.inj (Option.some.inj e);exact ⟨by decide,⟨_,rfl⟩,(hn 35 (by decide))⟩),fun K hK => ?_⟩;exact opw_loadM (x:=.tmp 7) (B:=k2) rfl ((hf.out 7 (by kernel_rfl)).trans rfl) (HBX2.out.below hbw) (hK.out _ _ (qrefl _) ⟨_,_,_,_,rfl,HM2.out.free.below hbw⟩)
    refine AllQ.step ?_ ?_
    ·intro fa vals w1 hf hbw hn
     refine ⟨(fun g b e => by obtain ⟨rfl,rfl⟩:=Prod.mk.inj (Option.some.inj e);exact ⟨by decide,⟨_,rfl⟩,(hn 35 (by decide))⟩),fun K hK => ?_⟩;exact st_clean (m:=ofM [doubtD (dF 2)]) rfl (by rw [(hf.at_ 36 95 (by decide) rfl)];exact (hn 36 (by decide))) sm_7.1 (fun w' hb => hK.out _ w' hb (by rw [aw_clean2];rfl))
    refine AllQ.step ?_ ?_
    ·intro fa vals w1 hf hbw hn
     refine ⟨(fun g b e => by obtain ⟨rfl,rfl⟩:=Prod.mk.inj (Option.some.inj e);exact ⟨by decide,⟨_,rfl⟩,(hn 35 (by decide))⟩),fun K hK => ?_⟩;exact opw_not rfl ((hf.at_ 37 96 (by decide) rfl).trans (hn 37 (by decide))) (hK.out _ _ (qrefl _) rfl)
    refine AllQ.step ?_ ?_
    ·intro fa vals w1 hf hbw hn
     refine ⟨(fun _ _ e => by cases e),fun K hK => ?_⟩;exact opw_pick (x:=.tmp 97) rfl ((hf.at_ 35 94 (by decide) rfl).trans (hn 35 (by decide))) (hK.out _ _ (qrefl _) ((hf.at_ 38 97 (by decide) rfl).trans (hn 38 (by decide))))
    exact trivial
   ·intro vals w6 hbw hr
    have e39:vals 39 = .bool true:=hr 39 (by decide)
    refine wpList_frame (fa:=({ tmps:=#[.bool false,.pointer (some ⟨B,0,none⟩),.pointer (some ⟨B + 1,0,none⟩),.pointer (some ⟨B + 1 + 1 + 1,0,none⟩),fnOf,.pointer (some ⟨k1,0,none⟩),.int .i64 0,.pointer (some ⟨k2,0,none⟩),.int .i64 0,.slice sa 1 sc,.pointer (some ⟨N,0,none⟩),.agg #[.int .i64 1,.string ⟨#[]⟩,.string ⟨#[]⟩,.int .i64 1,.int .i64 0,.slice none 0 0],.agg #[.int .i64 1,.string ⟨#[]⟩,.string ⟨#[]⟩,.int .i64 2,.int .i64 0,.slice none 0 0],.agg #[.int .i64 5,.string ⟨#[]⟩,.string ⟨#[]⟩,.int .i64 1,.int .i64 0,.slice none 0 0],.agg #[.int .i64 1,.string ⟨#[]⟩,.string ⟨#[]⟩,.int .i64 1,.int .i64 0,.slice none 0 0],.slice (some ⟨B + 1 + 1,0,none⟩) 2 2,.agg #[.int .i64 7,.string ⟨#[]⟩,.string ⟨#[]⟩,.int .i64 0,.int .i64 0,.slice (some ⟨B + 1 + 1,0,none⟩) 2 2],u118,u10,u11,u12,u13,u14,u15,u16,u17,u18,u19,u110,u111,u112,u113,u114,u115,u116,u117,u119,.int .i64 0,u213,u20,u21,u22,u23,u24,u25,u26,u27,u28,u29,u210,u211,u212,u214,.int .i64 0,.agg #[.string (ofM [doubtD (dF 2)]).label,.slice au2 (ofM [doubtD (dF 2)]).uses.length cu2,.slice ad2 (ofM [doubtD (dF 2)]).decls.length cd2],.slice sa 1 sc,.agg #[.int .i64 1,.string ⟨#[]⟩,.string ⟨#[]⟩,.int .i64 2,.int .i64 0,.slice none 0 0],.agg #[.int .i64 1,.int .i64 1,.bool false,.slice an 1 1,.bool false,.int .i64 1,.string ⟨#[]⟩,.string ⟨#[]⟩,.int .i64 2,.int .i64 0,.slice none 0 0],.pointer (some ⟨N,4,none⟩),vals 0,vals 1,vals 2,vals 3,vals 4,vals 5,vals 6,vals 7,vals 8,vals 9,vals 10,vals 11,vals 12,vals 13,vals 14,vals 15,vals 16,vals 17,vals 18,vals 19,vals 20,vals 21,vals 22,vals 23,vals 24,vals 25,vals 26,vals 27,vals 28,vals 29,vals 30,vals 31,vals 32,vals 33,vals 34,vals 35,vals 36,vals 37,vals 38,vals 39],defers:=[] }:Act)) (by kernel_rfl) ?_
    rw [e39];have HFN:Hid (Bw w w6):=(HW.out.below hbw).low;clear hr e39 hbw;generalize vals 0 = u90;generalize vals 1 = u91;generalize vals 2 = u92;generalize vals 3 = u93;generalize vals 4 = u94;generalize vals 5 = u95;generalize vals 6 = u96;generalize vals 7 = u97;generalize vals 8 = u98;generalize vals 9 = u99;generalize vals 10 = u910;generalize vals 11 = u911;generalize vals 12 = u912;generalize vals 13 = u913;generalize vals 14 = u914;generalize vals 15 = u915;generalize vals 16 = u916;generalize vals 17 = u917;generalize vals 18 = u918
    generalize vals 19 = u919;generalize vals 20 = u920;generalize vals 21 = u921;generalize vals 22 = u922;generalize vals 23 = u923;generalize vals 24 = u924;generalize vals 25 = u925;generalize vals 26 = u926;generalize vals 27 = u927;generalize vals 28 = u928;generalize vals 29 = u929;generalize vals 30 = u930;generalize vals 31 = u931;generalize vals 32 = u932;generalize vals 33 = u933;generalize vals 34 = u934;generalize vals 35 = u935;generalize vals 36 = u936;generalize vals 37 = u937;generalize vals 38 = u938
    simp only [List.drop_succ_cons,List.drop_zero]
    go_wp2;refine NoPanic.normal ?_;go_wp2;go_ret;exact ⟨rfl,HFN.out⟩
end Go.Proofs.YtdpnfkjafhbndaaGreatDoor

