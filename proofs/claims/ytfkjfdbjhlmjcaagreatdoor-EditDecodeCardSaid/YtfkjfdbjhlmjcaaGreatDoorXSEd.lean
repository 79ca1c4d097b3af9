/- edit.equalExpr. -/
import Derived.Test.YtfkjfdbjhlmjcaaGreatDoorXT5
set_option maxRecDepth 100000
set_option maxHeartbeats 16000000
namespace Go.Proofs.YtfkjfdbjhlmjcaaGreatDoor
open Go.RowKit Go.Shelf
attribute [local go_sem] Oper.semAt_some
def pairT (p:List Ex×List Ex):List Tree:=[subsT p.1,subsT p.2]
theorem zYb (p:List Ex×List Ex):(pairT p).length=2:=rfl
def sameP (st:List (List Ex×List Ex)):Bool:=st.all fun p=>sameL p.1 p.2
theorem zMh (r:List (List Ex×List Ex)) (p:List Ex×List Ex):sameP (r++[p])=(sameP r && sameL p.1 p.2):=by
 unfold sameP;rw [List.all_append,List.all_cons,List.all_nil,Bool.and_true]
def wtP (st:List (List Ex×List Ex)):Nat:=(st.map fun p=>nodesL p.1+1).sum
theorem zTt (r:List (List Ex×List Ex)) (p:List Ex×List Ex):wtP (r++[p])=wtP r+(nodesL p.1+1):=by
 unfold wtP;rw [List.map_append,List.sum_append];simp
theorem zYc (st:List (List Ex×List Ex)):st.length≤wtP st:=by
 induction st with
 | nil=>exact Nat.zero_le _
 | cons p r ih=>unfold wtP at *;rw [List.map_cons,List.sum_cons,List.length_cons];omega
theorem zVv {w:World} {X:List Nat} {p:List Ex×List Ex} {l:List (List Ex×List Ex)} {xs:List Value} (h:ReadsL w X ((l++[p]).flatMap pairT) xs) :
  ∃(ys:List Value) (a:Option Addr) (c:Nat) (b:Option Addr) (d:Nat),xs=ys++[.slice a p.1.length c,.slice b p.2.length d]∧ys.length=l.length * 2∧ReadsL w X (l.flatMap pairT) ys∧Reads w X (subsT p.1) (.slice a p.1.length c)∧Reads w X (subsT p.2) (.slice b p.2.length d):=by
 have h1:=h.take (l.length * 2);have h2:=h.drop (l.length * 2);have hll:(l.flatMap pairT).length=l.length * 2:=zEj zYb l;rw [List.flatMap_append,List.take_left' hll] at h1;rw [List.flatMap_append,List.drop_left' hll,List.flatMap_cons,List.flatMap_nil,List.append_nil] at h2;obtain ⟨x0,r0,e0,h3,h2⟩:=ReadsL.inv (show ReadsL w X [subsT p.1,subsT p.2] _ from h2);obtain ⟨x1,r1,e1,h4,h2⟩:=h2.inv;rw [ReadsL] at h2;subst h2;obtain ⟨a,c,rfl,_,_⟩:=zFr h3;obtain ⟨b,d,rfl,_,_⟩:=zFr h4
 exact ⟨xs.take (l.length * 2),a,c,b,d,by rw [←e1,←e0,List.take_append_drop],by rw [h1.len,hll],h1,h3,h4⟩
theorem zTu (w:World) (B:Nat) (hB:B≤w.heap.size) (t:TypeId) (u v:Value):(w.alloc (.cells #[u,v] t)).ownsRow B t 2 (.slice (some ⟨w.heap.size,0,none⟩) 1 1) 1 [u,v]:=
 ⟨rfl,.inr ⟨w.heap.size,1,_,rfl,hB,World.alloc_heap_new _ _,Nat.le_refl _,by unfold maxLen;omega,rfl,rfl⟩⟩
theorem zIn {w:World} {x:Ex} {a:Option Addr} {c:Nat} (h:Reads w [] (subsT x.subs) (.slice a x.subs.length c)) :
  Reads (w.alloc (.cells #[.int .i64 x.kind,.string x.name,.string x.more,.int .i64 x.num,.int .i64 x.den,.slice a x.subs.length c] 60)) [] (subsT [x]) (.slice (some ⟨w.heap.size,0,none⟩) 1 1):=by
 refine Reads.ofRow (l:=[x]) (zAs (zXt w w.heap.size (Nat.le_refl _) 60 _ _ _ _ _ _)) (fun _ b _=>by simp) ?_;rw [List.flatMap_cons,List.flatMap_nil,List.append_nil];exact zFs (h.below (zAa _ _))
theorem yBg:(Tryz.prog.info? 195).map (fun i=>(i.zero,i.size,i.bytes))=some (some (.agg #[.slice none 0 0,.slice none 0 0]),2,48):=by kernel_rfl
theorem zEa {P:Program} {o:Oper} {a:Act} {w:World} {K:Act→World→Prop} {Q:Exit→Act→World→Prop} (s x:Operand) (t:TypeId)
  (ho:o.op=.call { callee:=.builtin .append,args:=#[s,x],argTypes:=#[t,t] })
  (base:Nat) (e:TypeId) (i:TypeInfo) (z:Value) (size bytes:Nat) (ht:P.underlying t=some (.slice e)) (hi:P.info? e=some i) (hz:i.zero=some z)
  (hsize:i.size=size) (hby:i.bytes=bytes) (hzs:z.cells.size=size) (hsz:0<size)
  (v:Value) (n:Nat) (xs:List Value) (hs:a.eval s=v) (hown:w.ownsRow base e size v n xs)
  (sv:Value) (m:Nat) (news:List Value) (hx:a.eval x=sv) (hr:IsRow w size sv m news) (h1:∀u∈news,u.oneCell'=true)
  (h63:n+m≤maxLen) (hbytes:(n+m) * bytes≤140737488355328) (hbase:base≤w.heap.size)
  (h:∀v' w',w'.ownsRow base e size v' (n+m) (xs++news)→w.grownBy w' v.ownBlock→(v'.ownBlock=v.ownBlock∨v'.ownBlock=some w.heap.size)→K (a.put o.dst v') w'):o.wp P a w K Q:=by
 obtain ⟨v',w',hrun,h2,h3,h4⟩:=zE (P:=P) base t o.type e i z size bytes ht hi hz hsize hby hzs hsz v n xs hown sv m news hr h1 h63 hbytes hbase;unfold Oper.wp execOp;simp only [ho,resolve,invoke,builtin,Sem.run_bind,Sem.run_pure,Result.andThen_ok,List.map_toArray,List.map_cons,List.map_nil,hs,hx,hrun]
 exact h v' w' h2 h3 h4
theorem zNv (x y:Ex) (a b:Option Addr) (c d:Nat) (w:World) (hx:Reads w [] (subsT x.subs) (.slice a x.subs.length c)) (hy:Reads w [] (subsT y.subs) (.slice b y.subs.length d)) (hN:nodesN x≤1000000) :
  Calls Tryz.prog 142 #[exV x a c,exV y b d] w fun e w'=>e=.returned (.bool (sameX x y))∧Bw w w':=by
 obtain ⟨i0,hi',hz0,hz1,hz2⟩:=info_parts yBg;have hA1:Bw w ((w.alloc (.cells #[.int .i64 x.kind,.string x.name,.string x.more,.int .i64 x.num,.int .i64 x.den,.slice a x.subs.length c] 60)).alloc (.cells #[.int .i64 y.kind,.string y.name,.string y.more,.int .i64 y.num,.int .i64 y.den,.slice b y.subs.length d] 60)):=zA (zAa _ _) (zAa _ _)
 have hA2:Bw w ((((w.alloc (.cells #[.int .i64 x.kind,.string x.name,.string x.more,.int .i64 x.num,.int .i64 x.den,.slice a x.subs.length c] 60)).alloc (.cells #[.int .i64 y.kind,.string y.name,.string y.more,.int .i64 y.num,.int .i64 y.den,.slice b y.subs.length d] 60)).alloc (.cells #[.int .i64 x.kind,.string x.name,.string x.more,.int .i64 x.num,.int .i64 x.den,.slice a x.subs.length c] 60)).alloc (.cells #[.int .i64 y.kind,.string y.name,.string y.more,.int .i64 y.num,.int .i64 y.den,.slice b y.subs.length d] 60)):=zA hA1 (zA (zAa _ _) (zAa _ _))
 have hr1:=zIn (hx.below hA1);have hr2:=zIn (hy.below (zA hA1 (zAa ((w.alloc (.cells #[.int .i64 x.kind,.string x.name,.string x.more,.int .i64 x.num,.int .i64 x.den,.slice a x.subs.length c] 60)).alloc (.cells #[.int .i64 y.kind,.string y.name,.string y.more,.int .i64 y.num,.int .i64 y.den,.slice b y.subs.length d] 60)) (.cells #[.int .i64 x.kind,.string x.name,.string x.more,.int .i64 x.num,.int .i64 x.den,.slice a x.subs.length c] 60))))
 have hr1':=hr1.below (zAa _ (.cells #[.int .i64 y.kind,.string y.name,.string y.more,.int .i64 y.num,.int .i64 y.den,.slice b y.subs.length d] 60));simp only [World.size_alloc] at hr1' hr2
 have HR0:Hid (ReadsL ((((w.alloc (.cells #[.int .i64 x.kind,.string x.name,.string x.more,.int .i64 x.num,.int .i64 x.den,.slice a x.subs.length c] 60)).alloc (.cells #[.int .i64 y.kind,.string y.name,.string y.more,.int .i64 y.num,.int .i64 y.den,.slice b y.subs.length d] 60)).alloc (.cells #[.int .i64 x.kind,.string x.name,.string x.more,.int .i64 x.num,.int .i64 x.den,.slice a x.subs.length c] 60)).alloc (.cells #[.int .i64 y.kind,.string y.name,.string y.more,.int .i64 y.num,.int .i64 y.den,.slice b y.subs.length d] 60)) [] ([(([x]:List Ex),([y]:List Ex))].flatMap pairT) [.slice (some ⟨w.heap.size+1+1,0,none⟩) 1 1,.slice (some ⟨w.heap.size+1+1+1,0,none⟩) 1 1]):=by
  show ReadsL _ _ _ _
  rw [List.flatMap_cons,List.flatMap_nil,List.append_nil];exact ReadsL.cons hr1' (ReadsL.cons hr2 (ReadsL.nil _ _))
 have HO:=lH (zTu ((((w.alloc (.cells #[.int .i64 x.kind,.string x.name,.string x.more,.int .i64 x.num,.int .i64 x.den,.slice a x.subs.length c] 60)).alloc (.cells #[.int .i64 y.kind,.string y.name,.string y.more,.int .i64 y.num,.int .i64 y.den,.slice b y.subs.length d] 60)).alloc (.cells #[.int .i64 x.kind,.string x.name,.string x.more,.int .i64 x.num,.int .i64 x.den,.slice a x.subs.length c] 60)).alloc (.cells #[.int .i64 y.kind,.string y.name,.string y.more,.int .i64 y.num,.int .i64 y.den,.slice b y.subs.length d] 60)) ((((w.alloc (.cells #[.int .i64 x.kind,.string x.name,.string x.more,.int .i64 x.num,.int .i64 x.den,.slice a x.subs.length c] 60)).alloc (.cells #[.int .i64 y.kind,.string y.name,.string y.more,.int .i64 y.num,.int .i64 y.den,.slice b y.subs.length d] 60)).alloc (.cells #[.int .i64 x.kind,.string x.name,.string x.more,.int .i64 x.num,.int .i64 x.den,.slice a x.subs.length c] 60)).alloc (.cells #[.int .i64 y.kind,.string y.name,.string y.more,.int .i64 y.num,.int .i64 y.den,.slice b y.subs.length d] 60)).heap.size (Nat.le_refl _) 195 (.slice (some ⟨w.heap.size+1+1,0,none⟩) 1 1) (.slice (some ⟨w.heap.size+1+1+1,0,none⟩) 1 1))
 have HS0:Hid (sameX x y=sameP [([x],[y])]):=by show _=_;simp [sameP,zFx,zPu]
 have hw0:wtP [([x],[y])]=nodesN x+1:=by simp [wtP,nodesL]
 have HQ1:=lH (zAa ((((w.alloc (.cells #[.int .i64 x.kind,.string x.name,.string x.more,.int .i64 x.num,.int .i64 x.den,.slice a x.subs.length c] 60)).alloc (.cells #[.int .i64 y.kind,.string y.name,.string y.more,.int .i64 y.num,.int .i64 y.den,.slice b y.subs.length d] 60)).alloc (.cells #[.int .i64 x.kind,.string x.name,.string x.more,.int .i64 x.num,.int .i64 x.den,.slice a x.subs.length c] 60)).alloc (.cells #[.int .i64 y.kind,.string y.name,.string y.more,.int .i64 y.num,.int .i64 y.den,.slice b y.subs.length d] 60)) (.cells #[.slice (some ⟨w.heap.size+1+1,0,none⟩) 1 1,.slice (some ⟨w.heap.size+1+1+1,0,none⟩) 1 1] 195))
 have hA2':=lH hA2;generalize sameX x y=T at *;unfold exV;clear hx hy hr1 hr2 hr1' hA1 hA2
 go_enter Tryz.func142,Tryz.ntmps142
 go_wp2
 have hz:((((w.alloc (.cells #[.int .i64 x.kind,.string x.name,.string x.more,.int .i64 x.num,.int .i64 x.den,.slice a x.subs.length c] 60)).alloc (.cells #[.int .i64 y.kind,.string y.name,.string y.more,.int .i64 y.num,.int .i64 y.den,.slice b y.subs.length d] 60)).alloc (.cells #[.int .i64 x.kind,.string x.name,.string x.more,.int .i64 x.num,.int .i64 x.den,.slice a x.subs.length c] 60)).alloc (.cells #[.int .i64 y.kind,.string y.name,.string y.more,.int .i64 y.num,.int .i64 y.den,.slice b y.subs.length d] 60)).heap.size=w.heap.size+1+1+1+1:=by simp
 rw [hz] at HO;generalize ((((w.alloc (.cells #[.int .i64 x.kind,.string x.name,.string x.more,.int .i64 x.num,.int .i64 x.den,.slice a x.subs.length c] 60)).alloc (.cells #[.int .i64 y.kind,.string y.name,.string y.more,.int .i64 y.num,.int .i64 y.den,.slice b y.subs.length d] 60)).alloc (.cells #[.int .i64 x.kind,.string x.name,.string x.more,.int .i64 x.num,.int .i64 x.den,.slice a x.subs.length c] 60)).alloc (.cells #[.int .i64 y.kind,.string y.name,.string y.more,.int .i64 y.num,.int .i64 y.den,.slice b y.subs.length d] 60))=W1 at *;have hzW:=lH hz;clear hz
 have HO2:Hid ((W1.alloc (.cells #[.slice (some ⟨w.heap.size+1+1,0,none⟩) 1 1,.slice (some ⟨w.heap.size+1+1+1,0,none⟩) 1 1] 195)).ownsRow W1.heap.size 195 2 (.slice (some ⟨w.heap.size+1+1+1+1,0,none⟩) 1 1) 1 [.slice (some ⟨w.heap.size+1+1,0,none⟩) 1 1,.slice (some ⟨w.heap.size+1+1+1,0,none⟩) 1 1]):=by show World.ownsRow _ _ _ _ _ _ _;rw [hzW.out];exact HO.o
 have HQ2:Hid (Bw W1 (W1.alloc (.cells #[.slice (some ⟨w.heap.size+1+1,0,none⟩) 1 1,.slice (some ⟨w.heap.size+1+1+1,0,none⟩) 1 1] 195))):=lH (zAa _ _);clear HO HQ1
 go_loopg [5] (nodesN x+1) (fun g ov wr=>∃(st:List (List Ex×List Ex)) (xs:List Value),wr.ownsRow W1.heap.size 195 2 ov st.length xs∧Hid (ReadsL W1 [] (st.flatMap pairT) xs)∧Bw W1 wr∧Hid (T=sameP st)∧wtP st≤nodesN x+1∧g=wtP st)
 case atStart=>exact ⟨[([x],[y])],_,HO2.o,HR0,HQ2.o,HS0,by omega,by omega⟩
 case round=>
  obtain ⟨st,xs,hown,HV,hb,HT,hwt,hg⟩:=hrel;obtain ⟨oa,oc,rfl⟩:=zAk hown;clear HO2 HR0 HQ2 HS0 hw0
  rcases zK st with rfl|⟨r,p,rfl⟩
  ·have hT:Hid (T=true):=HT.o
   go_wp2;go_ret;exact ⟨zAb hT.out.symm,hA2'.out.trans (hb.mono hA2'.out.size)⟩
  ·obtain ⟨la,lb⟩:=p
   obtain ⟨ys,sa,sc,sb,sd,rfl,hyl,hv,hsa,hsb⟩:=zVv HV.o;simp only at hsa hsb
   rw [zTt] at hwt hg;simp only at hwt hg
   have hlr:=zYc r;have HT2:Hid (T=(sameP r && sameL la lb)):=HT.o.trans (zMh r (la,lb));rw [List.length_append,List.length_cons,List.length_nil,Nat.zero_add] at hown;simp only [List.length_append,List.length_cons,List.length_nil,Nat.zero_add]
   have hpop0:=hown;obtain ⟨gb,cur,rfl,hcell,hgB,hgl,hgf,hoc,hoc2,hheap⟩:=zCo hown (by omega);have HP:=lH (zPj hpop0 hyl);have p0:=hcell (r.length * 2) (.slice sa la.length sc) (by rw [List.getElem?_append_right (by omega),hyl,Nat.sub_self];rfl);have p1:=hcell (r.length * 2+1) (.slice sb lb.length sd) (by rw [List.getElem?_append_right (by omega),hyl,Nat.add_sub_cancel_left];rfl);have hw1:IntKind.i64.wrap (((r.length:Int)+1) - 1)=(r.length:Int):=by rw [Int.add_sub_cancel];exact IntWalk.i64_in _ (by omega)
   have hr0:(0:Int)≤(r.length:Int):=by omega
   have hr1:(r.length:Int)<(r.length:Int)+1:=by omega
   have hr2:(r.length:Int)≤(oc:Int):=by omega
   have HBX:=lH (CBox.new wr 195 #[.slice sa la.length sc,.slice sb lb.length sd]);have HAX:=lH (zAa wr (.cells #[.slice sa la.length sc,.slice sb lb.length sd] 195));have HYS:=lH hv;have HSA:=lH hsa;have HSB:=lH hsb;have hwr:W1.heap.size≤wr.heap.size:=hb.size;clear hpop0 hown hv hsa hsb HV HT hcell hheap
   by_cases hl:la.length=lb.length
   ·have HLE:=lH hl
    have q1:((la.length:Int) != (lb.length:Int))=false:=by rw [hl];simp
    have HT3:Hid (T=(sameP r && sameL (la.drop 0) (lb.drop 0))):=HT2;have hla:nodesL la+wtP r+1≤nodesN x+1:=by omega
    have HHB:=lH hb;have hgf2:=hgf;clear hl;go_wp2;clear p0 p1 hw1 hr0 hr1 hr2 hgf hgf2;generalize wr=wo at *;generalize hwx:(wo.alloc (.cells #[.slice sa la.length sc,.slice sb lb.length sd] 195))=wx at *;have HOX:Hid (wx.ownsRow W1.heap.size 195 2 (.slice (some ⟨gb,0,none⟩) r.length oc) r.length ys):=by show World.ownsRow _ _ _ _ _ _ _;rw [←hwx];exact HP.o.alloc _
    have hsx:wx.heap.size=wo.heap.size+1:=by rw [←hwx];simp
    have hszx:wo.heap.size<wx.heap.size:=by omega
    have hbx:=HHB.o.trans (HAX.o.mono HHB.o.size);have hgbo:gb<wo.heap.size:=hgl;have HSX:=lH hsx;clear hwx HP HAX hb HHB hsx HT2 hlr hla q1 hgB hgl hoc hoc2 hwr;generalize hP0:wo.heap.size=P0 at *;clear hP0
    go_loopw [5,40] (fun ov iv wr=>∃(i:Nat) (st:List (List Ex×List Ex)) (xs:List Value),i≤la.length∧iv=.int .i64 i∧wr.ownsRow W1.heap.size 195 2 ov st.length xs∧Hid (ReadsL W1 [] (st.flatMap pairT) xs)∧Hid (T=(sameP st && sameL (la.drop i) (lb.drop i)))∧Hid (wtP st+nodesL (la.drop i)+1=wtP r+(nodesL la+1))∧Hid (∀k,ov.ownBlock=some k→k≠P0)∧CBox wr P0 195 #[.slice sa la.length sc,.slice sb lb.length sd]∧Bw W1 wr) (fun _ iv _=>la.length - (intOf iv).toNat)
    case atStart=>exact ⟨0,r,ys,Nat.zero_le _,rfl,HOX.o,HYS,HT3,by show _=_;rw [List.drop_zero];omega,fun k hk=>by simp [Value.ownBlock] at hk;omega,HBX.o,hbx⟩
    case round=>
     obtain ⟨i,st,xs,hil,rfl,hown,HV,HT,HW,HK,hbox,hb⟩:=hrel;have m0:=hbox.cell (i:=0) (v:=.slice sa la.length sc) rfl;have m1:=hbox.cell (i:=1) (v:=.slice sb lb.length sd) rfl;have ml:=hbox.lt;clear HOX HYS HT3 hbx HBX;obtain ⟨oa,oc',rfl⟩:=zAk hown;have hla:=zBq la;have hwl:=zYc st;have HW2:=HW.o
     by_cases hi:i<la.length
     ·have hd:decide ((i:Int)<(la.length:Int))=true:=decide_eq_true (by omega)
      have hi2:i<lb.length:=by rw [←HLE.o];exact hi
      have hir:(i:Int)<(la.length:Int):=by omega
      have hir2:(i:Int)<(lb.length:Int):=by omega
      obtain ⟨u,hu⟩:∃u,la[i]?=some u:=⟨_,List.getElem?_eq_getElem hi⟩;obtain ⟨v,hv⟩:∃v,lb[i]?=some v:=⟨_,List.getElem?_eq_getElem hi2⟩;obtain ⟨b1,o1,ua,uc,rfl,hb1,u0,u1,u2,u3,u4,u5,-,-,hur⟩:=zAx HSA.o hu;obtain ⟨b2,o2,va,vc,rfl,hb2,v0,v1,v2,v3,v4,v5,-,-,hvr⟩:=zAx HSB.o hv
      have hdl:nodesL (la.drop i)=nodesN u+nodesL (la.drop (i+1)):=by
       obtain ⟨hj,e⟩:=List.getElem?_eq_some_iff.1 hu;rw [List.drop_eq_getElem_cons hj,e,nodesL]
      have hnu:nodesN u=1+nodesL u.subs:=zBc u;have HN:Hid (T=(sameP st && (sameX u v && sameL (la.drop (i+1)) (lb.drop (i+1))))):=by show _=_;rw [HT.o,zTs hu hv]
      have HXE:=lH (zNu u v);have HH:Hid (headB u v=(u.kind==v.kind && (eqS u.name v.name && (eqS u.more v.more && (u.num==v.num && u.den==v.den))))):=rfl;have HQ:Hid ((u.kind != v.kind)=!(u.kind==v.kind)∧(u.num != v.num)=!(u.num==v.num)∧(u.den != v.den)=!(u.den==v.den)∧eqS u.name v.name=(u.name.toList==v.name.toList)∧eqS u.more v.more=(u.more.toList==v.more.toList)):=⟨rfl,rfl,rfl,rfl,rfl⟩
      obtain ⟨k1,k2,k3,k4,k5,e1,e2,e3,e4,e5⟩:∃k1 k2 k3 k4 k5,(u.kind==v.kind)=k1∧(u.name.toList==v.name.toList)=k2∧(u.more.toList==v.more.toList)=k3∧(u.num==v.num)=k4∧(u.den==v.den)=k5:=⟨_,_,_,_,_,rfl,rfl,rfl,rfl,rfl⟩;obtain ⟨h1,h2,h3,h4,h5⟩:=HQ.o;rw [h4,h5,e1,e2,e3,e4,e5] at HH;rw [e1] at h1;rw [e4] at h2;rw [e5] at h3;clear h4 h5 HQ e1 e4 e5 HT;have hB1':b1<wr.heap.size:=Nat.lt_of_lt_of_le hb1 hb.size;have hB2':b2<wr.heap.size:=Nat.lt_of_lt_of_le hb2 hb.size
      have uu0:=(hb.cell (p:=⟨b1,_,none⟩) hb1).trans u0;have uu1:=(hb.cell (p:=⟨b1,_,none⟩) hb1).trans u1;have uu2:=(hb.cell (p:=⟨b1,_,none⟩) hb1).trans u2;have uu3:=(hb.cell (p:=⟨b1,_,none⟩) hb1).trans u3;have uu4:=(hb.cell (p:=⟨b1,_,none⟩) hb1).trans u4;have uu5:=(hb.cell (p:=⟨b1,_,none⟩) hb1).trans u5;have vv0:=(hb.cell (p:=⟨b2,_,none⟩) hb2).trans v0;have vv1:=(hb.cell (p:=⟨b2,_,none⟩) hb2).trans v1;have vv2:=(hb.cell (p:=⟨b2,_,none⟩) hb2).trans v2;have vv3:=(hb.cell (p:=⟨b2,_,none⟩) hb2).trans v3
      have vv4:=(hb.cell (p:=⟨b2,_,none⟩) hb2).trans v4;have vv5:=(hb.cell (p:=⟨b2,_,none⟩) hb2).trans v5;have HU5:=lH u5;have HV5':=lH v5;have HO:=lH hown;have HBX:=lH hbox;clear hown hbox u0 u1 u2 u3 u4 u5 v0 v1 v2 v3 v4 v5;go_upto_region 10 with (fail)
      go_quiet (fail)
      go_upto_region 11 with (fail)
      generalize hwd:wr.drewN _=wd at *;have hbd:Bw wr wd:=by rw [←hwd];exact below_drewN (zAl _) _
      clear hwd;have tu0:=(hbd.cell (p:=⟨b1,_,none⟩) hB1').trans uu0;have tu1:=(hbd.cell (p:=⟨b1,_,none⟩) hB1').trans uu1;have tu2:=(hbd.cell (p:=⟨b1,_,none⟩) hB1').trans uu2;have tu3:=(hbd.cell (p:=⟨b1,_,none⟩) hB1').trans uu3;have tu4:=(hbd.cell (p:=⟨b1,_,none⟩) hB1').trans uu4;have tu5:=(hbd.cell (p:=⟨b1,_,none⟩) hB1').trans uu5;have tv0:=(hbd.cell (p:=⟨b2,_,none⟩) hB2').trans vv0;have tv1:=(hbd.cell (p:=⟨b2,_,none⟩) hB2').trans vv1;have tv2:=(hbd.cell (p:=⟨b2,_,none⟩) hB2').trans vv2
      have tv3:=(hbd.cell (p:=⟨b2,_,none⟩) hB2').trans vv3;have tv4:=(hbd.cell (p:=⟨b2,_,none⟩) hB2').trans vv4;have tv5:=(hbd.cell (p:=⟨b2,_,none⟩) hB2').trans vv5;have tb1:b1<wd.heap.size:=Nat.lt_of_lt_of_le hB1' hbd.size;have tb2:b2<wd.heap.size:=Nat.lt_of_lt_of_le hB2' hbd.size
      go_cut [103] from 51 to 103 (fun z wx=>z=.bool (!headB u v)∧Bw wr wx)
      case first=>
       clear uu0 uu1 uu2 uu3 uu4 uu5 vv0 vv1 vv2 vv3 vv4 vv5;clear HN HXE HK HO HBX HSA HSB hur hvr HV HW
       cases k1 with
       | false=>
        have HR:Hid ((!headB u v)=true):=by show _=_;rw [HH.o];rfl
        clear HH;refine wp_region_noPanic ?_
        go_quiet (fail)
        refine NoPanic.normal ?_
        (try go_wp2)
        go_meet
        case rel=>exact ⟨by rw [HR.o],below_drewN hbd _⟩
       | true=>
        cases k2 with
        | false=>
         have HR:Hid ((!headB u v)=true):=by show _=_;rw [HH.o];rfl
         clear HH;refine wp_region_noPanic ?_
         go_quiet (fail)
         refine NoPanic.normal ?_
         (try go_wp2)
         go_meet
         case rel=>exact ⟨by rw [HR.o],below_drewN hbd _⟩
        | true=>
         cases k3 with
         | false=>
          have HR:Hid ((!headB u v)=true):=by show _=_;rw [HH.o];rfl
          clear HH;refine wp_region_noPanic ?_
          go_quiet (fail)
          refine NoPanic.normal ?_
          (try go_wp2)
          go_meet
          case rel=>exact ⟨by rw [HR.o],below_drewN hbd _⟩
         | true=>
          cases k4 with
          | false=>
           have HR:Hid ((!headB u v)=true):=by show _=_;rw [HH.o];rfl
           clear HH;refine wp_region_noPanic ?_
           go_quiet (fail)
           refine NoPanic.normal ?_
           (try go_wp2)
           go_meet
           case rel=>exact ⟨by rw [HR.o],below_drewN hbd _⟩
          | true=>
           cases k5 with
           | false=>
            have HR:Hid ((!headB u v)=true):=by show _=_;rw [HH.o];rfl
            clear HH;refine wp_region_noPanic ?_
            go_quiet (fail)
            refine NoPanic.normal ?_
            (try go_wp2)
            go_meet
            case rel=>exact ⟨by rw [HR.o],below_drewN hbd _⟩
           | true=>
            have HR:Hid ((!headB u v)=false):=by show _=_;rw [HH.o];rfl
            clear HH;refine wp_region_noPanic ?_
            go_quiet (fail)
            refine NoPanic.normal ?_
            (try go_wp2)
            go_meet
            case rel=>exact ⟨by rw [HR.o],below_drewN hbd _⟩
      case rest=>
      obtain ⟨rfl,hb4⟩:=hcut;have hB4:=hb.trans (hb4.mono hb.size);have HO4:=lH (zKa (X:=[]) HO.o (Mod.of hb4) (by simp));have HBX4:=lH (HBX.o.below hb4);have l1:b1<wc.heap.size:=Nat.lt_of_lt_of_le hB1' hb4.size;have l2:b2<wc.heap.size:=Nat.lt_of_lt_of_le hB2' hb4.size;have w5:=(hb4.cell (p:=⟨b1,_,none⟩) hB1').trans uu5;have z5:=(hb4.cell (p:=⟨b2,_,none⟩) hB2').trans vv5;have hszw:=hB4.size;have hszP:=HBX4.o.lt;clear tu0 tu1 tu2 tu3 tu4 tu5 tv0 tv1 tv2 tv3 tv4 tv5
      clear uu0 uu1 uu2 uu3 uu4 uu5 vv0 vv1 vv2 vv3 vv4 vv5 h1 h2 h3 e2 e3 HH hb HO HBX hb4 m0 m1 ml
      cases hh:headB u v with
      | false=>
       have hT:Hid (T=false):=by show _=_;rw [HN.o,HXE.o,hh];simp
       (try simp only [Bool.not_false])
       go_wp2;go_ret;exact ⟨zAb hT.out.symm,hA2'.out.trans (hB4.mono hA2'.out.size)⟩
      | true=>
       have HT5:Hid (T=(sameP (st++[(u.subs,v.subs)]) && sameL (la.drop (i+1)) (lb.drop (i+1)))):=by show _=_;rw [HN.o,HXE.o,hh,zMh,Bool.true_and,Bool.and_assoc]
       have HW5:Hid (wtP (st++[(u.subs,v.subs)])+nodesL (la.drop (i+1))+1=wtP r+(nodesL la+1)):=by show _=_;rw [zTt];simp only;omega
       have HV5:Hid (ReadsL W1 [] ((st++[(u.subs,v.subs)]).flatMap pairT) (xs++[.slice ua u.subs.length uc,.slice va v.subs.length vc])):=by
        show ReadsL _ _ _ _
        rw [List.flatMap_append,List.flatMap_cons,List.flatMap_nil,List.append_nil];exact ReadsL.append (ReadsL.cons hur.out (ReadsL.cons hvr.out (ReadsL.nil _ _))) HV.o
       clear hh HN HXE
       (try simp only [Bool.not_true])
       go_upto_region 13 with (fail)
       have SW:Hid (∀W:World,Bw W1 W→(W.cell? ⟨b1,o1+i * 6+5,none⟩=some (.slice ua u.subs.length uc)∧W.cell? ⟨b2,o2+i * 6+5,none⟩=some (.slice va v.subs.length vc)∧b1<W.heap.size∧b2<W.heap.size)):=lH (fun W hW=>⟨(hW.cell (p:=⟨b1,_,none⟩) hb1).trans HU5.o,(hW.cell (p:=⟨b2,_,none⟩) hb2).trans HV5'.o,Nat.lt_of_lt_of_le hb1 hW.size,Nat.lt_of_lt_of_le hb2 hW.size⟩)
       refine wp_region_noPanic (zCl (fun W:World=>W.cell? ⟨b1,o1+i * 6+5,none⟩=some (.slice ua u.subs.length uc)∧W.cell? ⟨b2,o2+i * 6+5,none⟩=some (.slice va v.subs.length vc)∧b1<W.heap.size∧b2<W.heap.size) (.take 0 (.take 1 (.take 2 (.take 3 (.take 4 (.take 5 (.take 6 (.take 7 (.take 8 (.take 9 (.one 10 (.one 11 (.one 12 .done))))))))))))) zBm (by kernel_rfl) (fun _ _ _ _ _ h=>h) (SW.o _ (hB4.trans ((Mod.refl [] wc).drew.below.mono hB4.size))) ?_)
       iterate 10 (refine zEf (v:=?_) rfl (by rfl) ?_ ?_;rotate_left;(focus (intro wq hSw;(try dsimp only at hSw);go_simp;(try rw [if_neg (by first|omega|(simp;omega))]);(try with_reducible rfl)));(try simp only [gA,gB,gC,Act.put,gD,gE,gF]))
       have hdr:Bw wc wc.drew:=(Mod.refl [] wc).drew.below;generalize wc.drew=wd2 at *;have HO6:=lH ((zKa (X:=[]) HO4.o (Mod.of hdr) (by simp)).alloc (.cells #[.slice ua u.subs.length uc,.slice va v.subs.length vc] 195));have HR6:=lH (zAs (zTu wd2 wd2.heap.size (Nat.le_refl _) 195 (.slice ua u.subs.length uc) (.slice va v.subs.length vc)));have HB6:=lH ((HBX4.o.below hdr).alloc (.cells #[.slice ua u.subs.length uc,.slice va v.subs.length vc] 195))
       have hq6:=zA hdr (zAa wd2 (.cells #[.slice ua u.subs.length uc,.slice va v.subs.length vc] 195));have HD6:=lH (hB4.trans (hq6.mono hB4.size));clear w5 z5 HO4 HBX4
       (refine zAj rfl (by rfl) (fun K hK=>?_);go_simp)
       refine hK.out _ _ (SW.o _ HD6.o) ?_;clear hK K;(try simp only [gA,gB,gC,Act.put,gD,gE,gF]);have hz8:=HB6.o.lt;have hs8:=HD6.o.size;generalize wd2.heap.size=z6 at *;generalize World.alloc wd2 _=w6 at *;refine zAj rfl (by rfl) (fun K hK=>?_)
       refine zEa _ _ 196 rfl W1.heap.size 195 i0 _ 2 48 Tryz.underlying196 hi' hz0 hz1 hz2 rfl (by decide) (.slice oa st.length oc') st.length xs rfl HO6.o _ 1 ([.slice ua u.subs.length uc,.slice va v.subs.length vc]) rfl HR6.o (by intro q hq;simp at hq;rcases hq with rfl|rfl<;>rfl) (by unfold maxLen;omega) (by omega) hs8 ?_;intro v8 w8 hown8 hg8 hbk8;have hg9:Bw W1 w8:=HD6.o.grown hg8 hs8 (fun k hk=>(HO6.o.lt k hk).1);refine hK.out _ _ (SW.o _ hg9) ?_;clear hK K;(try simp only [gA,gB,gC,Act.put,gD,gE,gF])
       have HK8:Hid (∀k,v8.ownBlock=some k→k≠P0):=by
        show ∀k,_
        intro k hk
        rcases hbk8 with e|e
        ·exact HK.o k (e▸hk)
        ·rw [e] at hk;cases hk;intro e2;omega
       have HB8:Hid (CBox w8 P0 195 #[.slice (some ⟨b1,o1,none⟩) la.length sc,.slice (some ⟨b2,o2,none⟩) lb.length sd]):=(hg8.block P0 HB6.o.lt (fun e=>HK.o P0 e.symm rfl)).trans HB6.o;have HD8:=lH hg9;clear hbk8 hg8 HB6 HD6 HO6
       (refine zAj rfl (by rfl) (fun K hK=>?_);go_simp)
       refine hK.out _ _ (SW.o _ HD8.o) ?_;clear hK K;(try simp only [gA,gB,gC,Act.put,gD,gE,gF]);refine zCd ?_;refine NoPanic.normal ?_;go_wp2;go_roundw
       case rel=>exact ⟨i+1,st++[(u.subs,v.subs)],_,by omega,by go_num,by rw [List.length_append];exact hown8,HV5,HT5,HW5,HK8.o,HB8.o,HD8.o⟩
       case measure=>simp [intOf];omega
     ·have hd:decide ((i:Int)<(la.length:Int))=false:=decide_eq_false (by omega)
      have HT6:Hid (T=sameP st):=by show _=_;rw [HT.o,zPw (by omega) (by rw [←HLE.o];omega),Bool.and_true]
      have hgs:wtP st+1=wtP r+(nodesL la+1):=by have:=HW.o;rw [List.drop_eq_nil_of_le (by omega),nodesL] at this;omega
      go_wp2
      go_roundg (wtP st)
      all_goals first|omega|exact ⟨st,xs,hown,HV,hb,HT6,by omega,rfl⟩
   ·have q1:((la.length:Int) != (lb.length:Int))=true:=bne_iff_ne.2 (by omega)
    have hT:Hid (T=false):=by show _=_;rw [HT2.o,zPv hl,Bool.and_false]
    have hbf:Bw w (wr.alloc (.cells #[.slice sa la.length sc,.slice sb lb.length sd] 195)):=(hA2'.out.trans (hb.mono hA2'.out.size)).trans (HAX.o.mono (by have:=hA2'.out.size;omega));go_wp2;go_ret;exact ⟨zAb hT.out.symm,hbf⟩
structure DeclIn (w:World) (d:ODecl) (an:Option Addr) (cn:Nat) (sa:Option Addr) (cs:Nat):Prop where
  names:Reads w [] (strsT d.names) (.slice an d.names.length cn)
  subs:Reads w [] (subsT d.body.subs) (.slice sa d.body.subs.length cs)
  hn1:d.names.length≤cn
  hn2:cn≤9223372036854775807
  hs1:d.body.subs.length≤cs
  hs2:cs≤9223372036854775807
theorem DeclIn.below {w w':World} {d:ODecl} {an:Option Addr} {cn:Nat} {sa:Option Addr} {cs:Nat} (h:DeclIn w d an cn sa cs) (m:Bw w w'):DeclIn w' d an cn sa cs:=⟨h.names.below m,h.subs.below m,h.hn1,h.hn2,h.hs1,h.hs2⟩
theorem zNw (d f:ODecl) (an:Option Addr) (cn:Nat) (sa:Option Addr) (cs:Nat) (bn:Option Addr) (cm:Nat) (sb:Option Addr) (ct:Nat) (w:World) :
  Calls Tryz.prog 140 #[declV d an cn sa cs,declV f bn cm sb ct] w fun e w'=>e=.returned (.bool (sameHd d f))∧Bw w w':=by
 have HB1:Hid (CBox ((w.alloc (.cells #[.int .i64 d.id,.int .i64 d.kind,.bool d.pub,.slice an d.names.length cn,.bool d.doubt,.int .i64 d.body.kind,.string d.body.name,.string d.body.more,.int .i64 d.body.num,.int .i64 d.body.den,.slice sa d.body.subs.length cs] 62)).alloc (.cells #[.int .i64 f.id,.int .i64 f.kind,.bool f.pub,.slice bn f.names.length cm,.bool f.doubt,.int .i64 f.body.kind,.string f.body.name,.string f.body.more,.int .i64 f.body.num,.int .i64 f.body.den,.slice sb f.body.subs.length ct] 62)) w.heap.size 62 #[.int .i64 d.id,.int .i64 d.kind,.bool d.pub,.slice an d.names.length cn,.bool d.doubt,.int .i64 d.body.kind,.string d.body.name,.string d.body.more,.int .i64 d.body.num,.int .i64 d.body.den,.slice sa d.body.subs.length cs]):=(CBox.new w 62 #[.int .i64 d.id,.int .i64 d.kind,.bool d.pub,.slice an d.names.length cn,.bool d.doubt,.int .i64 d.body.kind,.string d.body.name,.string d.body.more,.int .i64 d.body.num,.int .i64 d.body.den,.slice sa d.body.subs.length cs]).alloc _
 have HB2:Hid (CBox ((w.alloc (.cells #[.int .i64 d.id,.int .i64 d.kind,.bool d.pub,.slice an d.names.length cn,.bool d.doubt,.int .i64 d.body.kind,.string d.body.name,.string d.body.more,.int .i64 d.body.num,.int .i64 d.body.den,.slice sa d.body.subs.length cs] 62)).alloc (.cells #[.int .i64 f.id,.int .i64 f.kind,.bool f.pub,.slice bn f.names.length cm,.bool f.doubt,.int .i64 f.body.kind,.string f.body.name,.string f.body.more,.int .i64 f.body.num,.int .i64 f.body.den,.slice sb f.body.subs.length ct] 62)) (w.heap.size+1) 62 #[.int .i64 f.id,.int .i64 f.kind,.bool f.pub,.slice bn f.names.length cm,.bool f.doubt,.int .i64 f.body.kind,.string f.body.name,.string f.body.more,.int .i64 f.body.num,.int .i64 f.body.den,.slice sb f.body.subs.length ct]):=by
  have:=CBox.new (w.alloc (.cells #[.int .i64 d.id,.int .i64 d.kind,.bool d.pub,.slice an d.names.length cn,.bool d.doubt,.int .i64 d.body.kind,.string d.body.name,.string d.body.more,.int .i64 d.body.num,.int .i64 d.body.den,.slice sa d.body.subs.length cs] 62)) 62 #[.int .i64 f.id,.int .i64 f.kind,.bool f.pub,.slice bn f.names.length cm,.bool f.doubt,.int .i64 f.body.kind,.string f.body.name,.string f.body.more,.int .i64 f.body.num,.int .i64 f.body.den,.slice sb f.body.subs.length ct];rwa [World.size_alloc] at this
 have hA:Bw w ((w.alloc (.cells #[.int .i64 d.id,.int .i64 d.kind,.bool d.pub,.slice an d.names.length cn,.bool d.doubt,.int .i64 d.body.kind,.string d.body.name,.string d.body.more,.int .i64 d.body.num,.int .i64 d.body.den,.slice sa d.body.subs.length cs] 62)).alloc (.cells #[.int .i64 f.id,.int .i64 f.kind,.bool f.pub,.slice bn f.names.length cm,.bool f.doubt,.int .i64 f.body.kind,.string f.body.name,.string f.body.more,.int .i64 f.body.num,.int .i64 f.body.den,.slice sb f.body.subs.length ct] 62)):=zA (zAa _ _) (zAa _ _)
 have HT:Hid (sameHd d f=(d.kind==f.kind && (d.pub==f.pub && d.doubt==f.doubt))):=rfl;obtain ⟨k1,k2,k3,e1,e2,e3⟩:∃k1 k2 k3,(d.kind==f.kind)=k1∧(d.pub==f.pub)=k2∧(d.doubt==f.doubt)=k3:=⟨_,_,_,rfl,rfl,rfl⟩;rw [e1,e2,e3] at HT;generalize sameHd d f=T at *;clear HB1 HB2;unfold declV
 cases k1 with
 | false=>
  go_enter Tryz.func140,Tryz.ntmps140
  go_wp2;go_ret;exact ⟨zAb HT.o.symm,hA⟩
 | true=>
  cases k2 with
  | false=>
   go_enter Tryz.func140,Tryz.ntmps140
   go_wp2;go_ret;exact ⟨zAb HT.o.symm,hA⟩
  | true=>
   cases k3 with
   | false=>
    go_enter Tryz.func140,Tryz.ntmps140
    go_wp2;go_ret;exact ⟨zAb HT.o.symm,hA⟩
   | true=>
    go_enter Tryz.func140,Tryz.ntmps140
    go_wp2;go_ret;exact ⟨zAb HT.o.symm,hA⟩
theorem zCs (d f:ODecl) (an:Option Addr) (cn:Nat) (sa:Option Addr) (cs:Nat) (bn:Option Addr) (cm:Nat) (sb:Option Addr) (ct:Nat) (w:World) (hd:DeclIn w d an cn sa cs) (hf:DeclIn w f bn cm sb ct) (hsd:d.names.length≤1000000) (hN:nodesN d.body≤1000000) :
  Calls Tryz.prog 90 #[declV d an cn sa cs,declV f bn cm sb ct] w fun e w'=>e=.returned (.bool (sameD d f))∧Bw w w':=by
 have HB1:Hid (CBox ((w.alloc (.cells #[.int .i64 d.id,.int .i64 d.kind,.bool d.pub,.slice an d.names.length cn,.bool d.doubt,.int .i64 d.body.kind,.string d.body.name,.string d.body.more,.int .i64 d.body.num,.int .i64 d.body.den,.slice sa d.body.subs.length cs] 62)).alloc (.cells #[.int .i64 f.id,.int .i64 f.kind,.bool f.pub,.slice bn f.names.length cm,.bool f.doubt,.int .i64 f.body.kind,.string f.body.name,.string f.body.more,.int .i64 f.body.num,.int .i64 f.body.den,.slice sb f.body.subs.length ct] 62)) w.heap.size 62 #[.int .i64 d.id,.int .i64 d.kind,.bool d.pub,.slice an d.names.length cn,.bool d.doubt,.int .i64 d.body.kind,.string d.body.name,.string d.body.more,.int .i64 d.body.num,.int .i64 d.body.den,.slice sa d.body.subs.length cs]):=(CBox.new w 62 #[.int .i64 d.id,.int .i64 d.kind,.bool d.pub,.slice an d.names.length cn,.bool d.doubt,.int .i64 d.body.kind,.string d.body.name,.string d.body.more,.int .i64 d.body.num,.int .i64 d.body.den,.slice sa d.body.subs.length cs]).alloc _
 have HB2:Hid (CBox ((w.alloc (.cells #[.int .i64 d.id,.int .i64 d.kind,.bool d.pub,.slice an d.names.length cn,.bool d.doubt,.int .i64 d.body.kind,.string d.body.name,.string d.body.more,.int .i64 d.body.num,.int .i64 d.body.den,.slice sa d.body.subs.length cs] 62)).alloc (.cells #[.int .i64 f.id,.int .i64 f.kind,.bool f.pub,.slice bn f.names.length cm,.bool f.doubt,.int .i64 f.body.kind,.string f.body.name,.string f.body.more,.int .i64 f.body.num,.int .i64 f.body.den,.slice sb f.body.subs.length ct] 62)) (w.heap.size+1) 62 #[.int .i64 f.id,.int .i64 f.kind,.bool f.pub,.slice bn f.names.length cm,.bool f.doubt,.int .i64 f.body.kind,.string f.body.name,.string f.body.more,.int .i64 f.body.num,.int .i64 f.body.den,.slice sb f.body.subs.length ct]):=by
  have:=CBox.new (w.alloc (.cells #[.int .i64 d.id,.int .i64 d.kind,.bool d.pub,.slice an d.names.length cn,.bool d.doubt,.int .i64 d.body.kind,.string d.body.name,.string d.body.more,.int .i64 d.body.num,.int .i64 d.body.den,.slice sa d.body.subs.length cs] 62)) 62 #[.int .i64 f.id,.int .i64 f.kind,.bool f.pub,.slice bn f.names.length cm,.bool f.doubt,.int .i64 f.body.kind,.string f.body.name,.string f.body.more,.int .i64 f.body.num,.int .i64 f.body.den,.slice sb f.body.subs.length ct];rwa [World.size_alloc] at this
 have hA:Bw w ((w.alloc (.cells #[.int .i64 d.id,.int .i64 d.kind,.bool d.pub,.slice an d.names.length cn,.bool d.doubt,.int .i64 d.body.kind,.string d.body.name,.string d.body.more,.int .i64 d.body.num,.int .i64 d.body.den,.slice sa d.body.subs.length cs] 62)).alloc (.cells #[.int .i64 f.id,.int .i64 f.kind,.bool f.pub,.slice bn f.names.length cm,.bool f.doubt,.int .i64 f.body.kind,.string f.body.name,.string f.body.more,.int .i64 f.body.num,.int .i64 f.body.den,.slice sb f.body.subs.length ct] 62)):=zA (zAa _ _) (zAa _ _)
 have HT:Hid (sameD d f=(d.id==f.id && (sameHd d f && (sameSs d.names f.names && sameX d.body f.body)))):=rfl;have HH:=lH (fun w=>zNw d f an cn sa cs bn cm sb ct w);have HN:=lH (fun w h1 h2=>zVt d.names f.names an bn cn cm w h1 h2 hsd);have HX:=lH (fun w h1 h2=>zNv d.body f.body sa sb cs ct w h1 h2 hN);have HD:=lH hd;have HF:=lH hf;obtain ⟨k1,e1⟩:∃k1,(d.id==f.id)=k1:=⟨_,rfl⟩;rw [e1] at HT;generalize sameD d f=T at *;generalize sameHd d f=k2 at *;generalize sameSs d.names f.names=k3 at *
 generalize sameX d.body f.body=k4 at *;unfold declV exV at *;clear hd hf
 cases k1 with
 | false=>
  go_enter Tryz.func90,Tryz.ntmps90
  go_wp2;go_ret;exact ⟨zAb HT.o.symm,hA⟩
 | true=>
  go_enter Tryz.func90,Tryz.ntmps90
  go_wp2_with (fail)
  refine (HH.o _).mono ?_;rintro e w1 ⟨rfl,hb1⟩;have hB1:=zA hA hb1;have px:=HB1.o.below hb1;have py:=HB2.o.below hb1;obtain ⟨px0,px1,px2,px3,px4,px5,px6,px7,px8,px9,px10,-⟩:=zAz px;obtain ⟨py0,py1,py2,py3,py4,py5,py6,py7,py8,py9,py10,-⟩:=zAz py;have plx:=px.lt;have ply:=py.lt
  cases k2 with
  | false=>
   go_wp2;go_ret;exact ⟨zAb HT.o.symm,hB1⟩
  | true=>
   go_wp2_with (fail)
   refine (HN.o _ (zAg.1 (HD.o.below hB1).names).1 (zAg.1 (HF.o.below hB1).names).1).mono ?_;rintro e w2 ⟨rfl,hb2⟩;have hB2:=zA hB1 hb2;have qx:=px.below hb2;have qy:=py.below hb2;obtain ⟨qx0,qx1,qx2,qx3,qx4,qx5,qx6,qx7,qx8,qx9,qx10,-⟩:=zAz qx;obtain ⟨qy0,qy1,qy2,qy3,qy4,qy5,qy6,qy7,qy8,qy9,qy10,-⟩:=zAz qy;have qlx:=qx.lt;have qly:=qy.lt
   cases k3 with
   | false=>
    go_wp2;go_ret;exact ⟨zAb HT.o.symm,hB2⟩
   | true=>
    go_wp2_with (fail)
    refine (HX.o _ (HD.o.below hB2).subs (HF.o.below hB2).subs).mono ?_;rintro e w3 ⟨rfl,hb3⟩;go_wp2;go_ret;exact ⟨zAb HT.o.symm,zA hB2 hb3⟩
theorem zEq (d f:ODecl) (an:Option Addr) (cn:Nat) (sa:Option Addr) (cs:Nat) (bn:Option Addr) (cm:Nat) (sb:Option Addr) (ct:Nat) (w:World) (hd:DeclIn w d an cn sa cs) (hf:DeclIn w f bn cm sb ct) (hsd:d.names.length≤1000000) (hN:nodesN d.body≤1000000) :
  Calls Tryz.prog 94 #[declV d an cn sa cs,declV f bn cm sb ct] w fun e w'=>e=.returned (.bool (sameD d f))∧Bw w w':=by
 have HB1:Hid (CBox ((w.alloc (.cells #[.int .i64 d.id,.int .i64 d.kind,.bool d.pub,.slice an d.names.length cn,.bool d.doubt,.int .i64 d.body.kind,.string d.body.name,.string d.body.more,.int .i64 d.body.num,.int .i64 d.body.den,.slice sa d.body.subs.length cs] 62)).alloc (.cells #[.int .i64 f.id,.int .i64 f.kind,.bool f.pub,.slice bn f.names.length cm,.bool f.doubt,.int .i64 f.body.kind,.string f.body.name,.string f.body.more,.int .i64 f.body.num,.int .i64 f.body.den,.slice sb f.body.subs.length ct] 62)) w.heap.size 62 #[.int .i64 d.id,.int .i64 d.kind,.bool d.pub,.slice an d.names.length cn,.bool d.doubt,.int .i64 d.body.kind,.string d.body.name,.string d.body.more,.int .i64 d.body.num,.int .i64 d.body.den,.slice sa d.body.subs.length cs]):=(CBox.new w 62 #[.int .i64 d.id,.int .i64 d.kind,.bool d.pub,.slice an d.names.length cn,.bool d.doubt,.int .i64 d.body.kind,.string d.body.name,.string d.body.more,.int .i64 d.body.num,.int .i64 d.body.den,.slice sa d.body.subs.length cs]).alloc _
 have HB2:Hid (CBox ((w.alloc (.cells #[.int .i64 d.id,.int .i64 d.kind,.bool d.pub,.slice an d.names.length cn,.bool d.doubt,.int .i64 d.body.kind,.string d.body.name,.string d.body.more,.int .i64 d.body.num,.int .i64 d.body.den,.slice sa d.body.subs.length cs] 62)).alloc (.cells #[.int .i64 f.id,.int .i64 f.kind,.bool f.pub,.slice bn f.names.length cm,.bool f.doubt,.int .i64 f.body.kind,.string f.body.name,.string f.body.more,.int .i64 f.body.num,.int .i64 f.body.den,.slice sb f.body.subs.length ct] 62)) (w.heap.size+1) 62 #[.int .i64 f.id,.int .i64 f.kind,.bool f.pub,.slice bn f.names.length cm,.bool f.doubt,.int .i64 f.body.kind,.string f.body.name,.string f.body.more,.int .i64 f.body.num,.int .i64 f.body.den,.slice sb f.body.subs.length ct]):=by
  have:=CBox.new (w.alloc (.cells #[.int .i64 d.id,.int .i64 d.kind,.bool d.pub,.slice an d.names.length cn,.bool d.doubt,.int .i64 d.body.kind,.string d.body.name,.string d.body.more,.int .i64 d.body.num,.int .i64 d.body.den,.slice sa d.body.subs.length cs] 62)) 62 #[.int .i64 f.id,.int .i64 f.kind,.bool f.pub,.slice bn f.names.length cm,.bool f.doubt,.int .i64 f.body.kind,.string f.body.name,.string f.body.more,.int .i64 f.body.num,.int .i64 f.body.den,.slice sb f.body.subs.length ct];rwa [World.size_alloc] at this
 have hA:Bw w ((w.alloc (.cells #[.int .i64 d.id,.int .i64 d.kind,.bool d.pub,.slice an d.names.length cn,.bool d.doubt,.int .i64 d.body.kind,.string d.body.name,.string d.body.more,.int .i64 d.body.num,.int .i64 d.body.den,.slice sa d.body.subs.length cs] 62)).alloc (.cells #[.int .i64 f.id,.int .i64 f.kind,.bool f.pub,.slice bn f.names.length cm,.bool f.doubt,.int .i64 f.body.kind,.string f.body.name,.string f.body.more,.int .i64 f.body.num,.int .i64 f.body.den,.slice sb f.body.subs.length ct] 62)):=zA (zAa _ _) (zAa _ _)
 have HT:Hid (sameD d f=(d.id==f.id && ((d.kind==f.kind && (d.pub==f.pub && d.doubt==f.doubt)) && (sameSs d.names f.names && sameX d.body f.body)))):=rfl;have HN:=lH (fun w h1 h2=>zEz d.names f.names an bn cn cm w h1 h2 hsd);have HX:=lH (fun w h1 h2=>zVu d.body f.body sa sb cs ct w h1 h2 (by omega));have HD:=lH hd;have HF:=lH hf;obtain ⟨k1,k2,k5,k6,e1,e2,e3,e4⟩:∃k1 k2 k3 k4,(d.id==f.id)=k1∧(d.kind==f.kind)=k2∧(d.pub==f.pub)=k3∧(d.doubt==f.doubt)=k4:=⟨_,_,_,_,rfl,rfl,rfl,rfl⟩
 rw [e1,e2,e3,e4] at HT;generalize sameD d f=T at *;generalize sameSs d.names f.names=k3 at *;generalize sameX d.body f.body=k4 at *;unfold declV exV at *;clear hd hf
 cases k1 with
 | false=>
  go_enter Tryz.func94,Tryz.ntmps94
  go_wp2;go_ret;exact ⟨zAb (by rw [HT.o];rfl),hA⟩
 | true=>
  cases k2 with
  | false=>
   go_enter Tryz.func94,Tryz.ntmps94
   go_wp2;go_ret;exact ⟨zAb (by rw [HT.o];simp),hA⟩
  | true=>
   cases k5 with
   | false=>
    go_enter Tryz.func94,Tryz.ntmps94
    go_wp2;go_ret;exact ⟨zAb (by rw [HT.o];simp),hA⟩
   | true=>
    cases k6 with
    | false=>
     go_enter Tryz.func94,Tryz.ntmps94
     go_wp2;go_ret;exact ⟨zAb (by rw [HT.o];simp),hA⟩
    | true=>
     go_enter Tryz.func94,Tryz.ntmps94
     go_wp2_with (fail)
     refine (HN.o _ (zAg.1 (HD.o.below hA).names).1 (zAg.1 (HF.o.below hA).names).1).mono ?_;rintro e w2 ⟨rfl,hb2⟩;have hB2:=zA hA hb2;have qx:=HB1.o.below hb2;have qy:=HB2.o.below hb2;obtain ⟨qx0,qx1,qx2,qx3,qx4,qx5,qx6,qx7,qx8,qx9,qx10,-⟩:=zAz qx;obtain ⟨qy0,qy1,qy2,qy3,qy4,qy5,qy6,qy7,qy8,qy9,qy10,-⟩:=zAz qy;have qlx:=qx.lt;have qly:=qy.lt
     cases k3 with
     | false=>
      go_wp2;go_ret;exact ⟨zAb (by rw [HT.o];rfl),hB2⟩
     | true=>
      go_wp2_with (fail)
      refine (HX.o _ (HD.o.below hB2).subs (HF.o.below hB2).subs).mono ?_;rintro e w3 ⟨rfl,hb3⟩;go_wp2;go_ret;exact ⟨zAb (by rw [HT.o];rfl),zA hB2 hb3⟩
end Go.Proofs.YtfkjfdbjhlmjcaaGreatDoor
