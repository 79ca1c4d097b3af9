/- Reference 34: -/
import Derived.Test.YtfkjfdbjhlmjcaaGreatDoorDDH
import Derived.Test.YtfkjfdbjhlmjcaaGreatDoorDDE
set_option maxRecDepth 100000
set_option maxHeartbeats 16000000
namespace Go.Proofs.YtfkjfdbjhlmjcaaGreatDoor
open Go.RowKit Go.Shelf
attribute [local go_sem] Oper.semAt_some
theorem zDl {α:Type} {l:List α} {i:Nat} {x:α} (h:l[i]?=some x):l.drop i=x::l.drop (i+1):=by
 obtain ⟨hi,e⟩:=List.getElem?_eq_some_iff.1 h;rw [List.drop_eq_getElem_cons hi,e]
theorem zIx {w:World} {X:List Nat} {l:List ODecl} {a:Option Addr} {c:Nat} (h:Reads w X (declsT l) (.slice a l.length c)) {i:Nat} {d:ODecl} (hl:l[i]?=some d) :
  ∃(b o:Nat) (an:Option Addr) (cn:Nat) (sa:Option Addr) (cs:Nat),a=some ⟨b,o,none⟩∧b<w.heap.size∧(∀(j:Nat) (u:Value),(declL d an cn sa cs)[j]?=some u→w.cell? ⟨b,o+i * 11+j,none⟩=some u)∧ReadsL w X (declT d) (declL d an cn sa cs)∧DeclIn w d an cn sa cs∧Reads w X (strsT d.names) (.slice an d.names.length cn)∧Reads w X (subsT d.body.subs) (.slice sa d.body.subs.length cs):=by
 obtain ⟨b,o,an,cn,sa,cs,e,hb,hc,n1,n2,HN,s1,s2,HS⟩:=zBd h hl;exact ⟨b,o,an,cn,sa,cs,e,hb,hc,zBo HN.out HS.out,⟨HN.out.fewer (by simp),HS.out.fewer (by simp),n1,n2,s1,s2⟩,HN.out,HS.out⟩
theorem zQv (k:Int) (hk:k=7∨k=8∨k=9) (d:ODecl) (an:Option Addr) (cn:Nat) (sa:Option Addr) (cs:Nat) (w:World) :
  Calls Tryz.prog 93 #[declV d an cn sa cs,.int .i64 k] w fun e w'=>e=.returned (declV (partD k d) (mtA k an) (mC k cn) (sA k sa) (sC k cs))∧Bw w w':=by
 have hA:∀o1 o2,Bw w ((w.alloc o1).alloc o2):=fun _ _=>zA (zAb _ _) (zAb _ _)
 rcases hk with rfl|rfl|rfl
 ·unfold declV
  go_enter Tryz.func93,Tryz.ntmps93
  go_wp2;go_returns;exact ⟨rfl,hA _ _⟩
 ·unfold declV
  go_enter Tryz.func93,Tryz.ntmps93
  go_wp2;go_returns;exact ⟨rfl,hA _ _⟩
 ·unfold declV
  go_enter Tryz.func93,Tryz.ntmps93
  go_wp2;go_returns;exact ⟨rfl,hA _ _⟩
def S11 (W:World) (b o:Nat) (x:ODecl) (an:Option Addr) (cn:Nat) (sa:Option Addr) (cs:Nat):Prop:=W.cell? ⟨b,o,none⟩=some (.int .i64 x.id)∧W.cell? ⟨b,o+1,none⟩=some (.int .i64 x.kind)∧W.cell? ⟨b,o+2,none⟩=some (.bool x.pub)∧W.cell? ⟨b,o+3,none⟩=some (.slice an x.names.length cn)∧W.cell? ⟨b,o+4,none⟩=some (.bool x.doubt)∧W.cell? ⟨b,o+5,none⟩=some (.int .i64 x.body.kind)∧W.cell? ⟨b,o+6,none⟩=some (.string x.body.name)∧W.cell? ⟨b,o+7,none⟩=some (.string x.body.more)∧W.cell? ⟨b,o+8,none⟩=some (.int .i64 x.body.num)∧W.cell? ⟨b,o+9,none⟩=some (.int .i64 x.body.den)∧W.cell? ⟨b,o+10,none⟩=some (.slice sa x.body.subs.length cs)
theorem zTw {w W:World} {b o:Nat} {x:ODecl} {an:Option Addr} {cn:Nat} {sa:Option Addr} {cs:Nat} (h:∀(j:Nat) (u:Value),(declL x an cn sa cs)[j]?=some u→w.cell? ⟨b,o+j,none⟩=some u) (hb:b<w.heap.size) (m:Bw w W):S11 W b o x an cn sa cs:=
 have k:∀(j:Nat) (u:Value),(declL x an cn sa cs)[j]?=some u→W.cell? ⟨b,o+j,none⟩=some u:=fun j u e=>(m.cell (p:=⟨b,_,none⟩) hb).trans (h j u e)
 ⟨k 0 _ rfl,k 1 _ rfl,k 2 _ rfl,k 3 _ rfl,k 4 _ rfl,k 5 _ rfl,k 6 _ rfl,k 7 _ rfl,k 8 _ rfl,k 9 _ rfl,k 10 _ rfl⟩
theorem zZb {j:Nat} (h:j<3):([7,8,9]:List Int)[j]?=some (7+j):=by
 match j,h with
 | 0,_=>rfl
 | 1,_=>rfl
 | 2,_=>rfl
section
variable {o:Oper} {fa:Act} {w:World} {K:Act→World→Prop} {Q:Exit→Act→World→Prop}
theorem zNj {x:Operand} {B:Nat} (ho:o.op=.fieldAddr 52 x 2) (hx:fa.eval x=.pointer (some ⟨B,0,none⟩)) (h:K (fa.put o.dst (.pointer (some ⟨B,2,none⟩))) w):Oper.wp Tryz.prog o fa w K Q:=by
 unfold Oper.wp execOp;simp only [ho,hx]
 go_simp
 exact h
theorem zQw {x:Operand} {B j:Nat} {a:Option Addr} {n c:Nat} (ho:o.op=.load 37 x) (hx:fa.eval x=.pointer (some ⟨B,j,none⟩)) (_hB:B<w.heap.size) (hc:w.cell? ⟨B,j,none⟩=some (.slice a n c)) (h:K (fa.put o.dst (.slice a n c)) w):Oper.wp Tryz.prog o fa w K Q:=by
 unfold Oper.wp execOp;simp only [ho,hx]
 go_simp
 exact h
theorem zQx {x y:Operand} {b q n c i:Nat} (ho:o.op=.indexAddr 37 x y) (hx:fa.eval x=.slice (some ⟨b,q,none⟩) n c) (hy:fa.eval y=.int .i64 i) (hn:i<n) (h:K (fa.put o.dst (.pointer (some ⟨b,q+i * 11,none⟩))) w):Oper.wp Tryz.prog o fa w K Q:=by
 have hi:(i:Int)<(n:Int):=by omega
 unfold Oper.wp execOp;simp only [ho,hx,hy]
 go_simp
 exact h
end
def Q16 (v0 v1 v2 v3 v4 v5 v6 v7 v8 v9 v10 v11 v12 v13:Value):Nat→Value→Prop
 | 0,v=>v=v0
 | 1,v=>v=v1
 | 2,v=>v=v2
 | 3,v=>v=v3
 | 4,v=>v=v4
 | 5,v=>v=v5
 | 6,v=>v=v6
 | 7,v=>v=v7
 | 8,v=>v=v8
 | 9,v=>v=v9
 | 10,v=>v=v10
 | 11,v=>v=v11
 | 12,v=>v=v12
 | 13,v=>v=v13
 | _,_=>True
theorem zQy (p q:ByteArray) (xs bs:List ODecl) (ua ub da db:Option Addr) (un uc vn vc ca cb:Nat) (X:List Nat) (w:World) (hX:∀x∈X,x<w.heap.size) (ha:Reads w X (declsT xs) (.slice da xs.length ca)) (hb:Reads w X (declsT bs) (.slice db bs.length cb)) (hna:xs.length≤40000) (hnb:bs.length≤40000)
  (hsa:∀x∈xs,x.names.length≤1000000∧nodesN x.body≤1000000) (hsb:∀x∈bs,x.names.length≤1000000∧nodesN x.body≤1000000) :
  Calls Tryz.prog 46 #[.agg #[.string p,.slice ua un uc,.slice da xs.length ca],.agg #[.string q,.slice ub vn vc,.slice db bs.length cb]] w fun r w'=>∃v,r=.returned v∧OwnT w' X w.heap.size 39 5 editT v (declE p xs bs)∧Bw w w':=by
 obtain ⟨i0,z,hi0,hz0,hzs,hz1,hz2⟩:=zAn zDg;obtain ⟨n,hn⟩:∃n,xs.length=n:=⟨_,rfl⟩;obtain ⟨m,hm⟩:∃m,bs.length=m:=⟨_,rfl⟩;obtain ⟨K,hK⟩:∃K,K=3 * (n+m):=⟨_,rfl⟩;have HRX0:=lH ha;have HRB0:=lH hb;rw [hn] at ha hna ⊢;rw [hm] at hb hnb ⊢;have hKl:K≤240000:=by omega
 obtain ⟨g1,g2,g3⟩:=zBt w 52 #[.string p,.slice ua un uc,.slice da n ca] #[.string q,.slice ub vn vc,.slice db m cb];obtain ⟨B,hB⟩:∃B,B=w.heap.size:=⟨_,rfl⟩;obtain ⟨C,hC⟩:∃C,C=B+1:=⟨_,rfl⟩;obtain ⟨W0,hW0⟩:∃W0,W0=(w.alloc (.cells #[.string p,.slice ua un uc,.slice da n ca] 52)).alloc (.cells #[.string q,.slice ub vn vc,.slice db m cb] 52):=⟨_,rfl⟩;rw [←hW0,←hB] at g1;rw [←hW0,←hB,←hC] at g2;rw [←hW0] at g3;have G1:=lH g1;have G2:=lH g2;have HB0:=lH g3;have HNX:=lH hn;have HNB:=lH hm;have HSA:=lH hsa
 have HSB:=lH hsb;have HXX:Hid (∀x∈X,x<W0.heap.size):=fun x hx=>Nat.lt_of_lt_of_le (hX x hx) g3.size;have HKN:Hid (3 * (n+m)≤K):=by show _≤_;omega
 have HE:Hid (declE p xs bs=([]:List OEdit)++declE p (xs.drop 0) (bs.drop 0)):=rfl;clear g1 g2 g3 ha hb hsa hsb hX hK hn hm;generalize declE p xs bs=T at *
 go_enter Tryz.func46,Tryz.ntmps46
 go_upto_region 1 with (fail)
 rw [←hW0,←hB,←hC];clear hW0 hB hC;have HO0:Hid (OwnT (W0.alloc (.cells #[] 39)) X W0.heap.size 39 5 editT (.slice (some ⟨W0.heap.size,0,none⟩) 0 0) ([]:List OEdit)):=⟨[],World.ownsRow_made W0 #[] 0 (Nat.le_refl _) (Nat.zero_le _) rfl,ReadsL.nil _ _⟩;have HB00:=lH (zAb W0 (.cells #[] 39));go_wp2
 go_loopw [6,7,5] (fun iv kv ov wr=>∃(i k0:Nat) (out:List OEdit),i≤n∧k0≤m∧iv=.int .i64 i∧kv=.int .i64 k0∧Hid (T=out++declE p (xs.drop i) (bs.drop k0))∧Hid (OwnT wr X W0.heap.size 39 5 editT ov out∧3 * ((n - i)+(m - k0))+out.length≤K)∧Hid (Bw W0 wr)) (fun iv kv _ _=>(n - (intOf iv).toNat)+(m - (intOf kv).toNat))
 case atStart=>exact ⟨0,0,[],Nat.zero_le _,Nat.zero_le _,rfl,rfl,HE,⟨HO0.out,by have:=HKN.out;simp;omega⟩,HB00.out⟩
 case round=>
  clear HE HO0 HB00;obtain ⟨i,k0,out,hin,hkm,rfl,rfl,HI,HW,HB⟩:=hrel;obtain ⟨oa0,oc0,rfl,-,-⟩:=HW.out.1.val;have b2:=(G1.out.below HB.out).cell (i:=2) (v:=.slice da n ca) rfl;have c2:=(G2.out.below HB.out).cell (i:=2) (v:=.slice db m cb) rfl;have bl:=(G1.out.below HB.out).lt;have cl:=(G2.out.below HB.out).lt;have HBW:=lH (zA HB0.out HB.out)
  by_cases hlti:i<n
  ·have hdi:decide ((i:Int)<(n:Int))=true:=decide_eq_true (by omega)
   have hiz:((i:Int)==(n:Int))=false:=by simp;omega
   have hir:(i:Int)<(n:Int):=by omega
   obtain ⟨a,hga⟩:∃a,xs[i]?=some a:=⟨_,List.getElem?_eq_getElem (by rw [HNX.out];omega)⟩;obtain ⟨ba,oa,ana,cna,saa,csa,eaa,hla,hca,hrda,hdia,hrna,hrsa⟩:=zIx HRX0.out hga;have HGA:=lH hga;subst eaa;have HLA:=lH hla;have HCA:=lH hca;have HRDa:=lH hrda;have HDIa:=lH hdia;have HRNa:=lH hrna;have HRSa:=lH hrsa;have HSMa:=lH (HSA.out a (List.mem_of_getElem? hga));clear hca hrda hdia hrna hrsa hla hga
   by_cases hltk:k0<m
   ·have hdk:decide ((k0:Int)<(m:Int))=true:=decide_eq_true (by omega)
    have hkz:((k0:Int)==(m:Int))=false:=by simp;omega
    have hkr:(k0:Int)<(m:Int):=by omega
    obtain ⟨b,hgb⟩:∃b,bs[k0]?=some b:=⟨_,List.getElem?_eq_getElem (by rw [HNB.out];omega)⟩;obtain ⟨bb,ob,anb,cnb,sab,csb,eab,hlb,hcb,hrdb,hdib,hrnb,hrsb⟩:=zIx HRB0.out hgb;have HGB:=lH hgb;subst eab;have HLB:=lH hlb;have HCB:=lH hcb;have HRDb:=lH hrdb;have HDIb:=lH hdib;have HRNb:=lH hrnb;have HRSb:=lH hrsb;have HSMb:=lH (HSB.out b (List.mem_of_getElem? hgb));clear hcb hrdb hdib hrnb hrsb hlb hgb
    by_cases hlt:a.id<b.id
    ·have q1:decide (a.id<b.id)=true:=decide_eq_true hlt
     have HN:Hid (T=(out++[remD p a])++declE p (xs.drop (i+1)) (bs.drop k0)):=by
      show _=_
      rw [HI.out,zDl HGA.out,zDl HGB.out];exact zTn hlt
     clear HI hlt;have x0:wr.cell? ⟨ba,oa+i * 11,none⟩=some (.int .i64 a.id):=(HBW.out.cell (p:=⟨ba,_,none⟩) HLA.out).trans (HCA.out 0 _ rfl);have xl:ba<wr.heap.size:=Nat.lt_of_lt_of_le HLA.out HBW.out.size;have y0:wr.cell? ⟨bb,ob+k0 * 11,none⟩=some (.int .i64 b.id):=(HBW.out.cell (p:=⟨bb,_,none⟩) HLB.out).trans (HCB.out 0 _ rfl);have yl:bb<wr.heap.size:=Nat.lt_of_lt_of_le HLB.out HBW.out.size;go_upto_region 4 with (fail)
     go_quiet (fail)
     generalize hwd:wr.drewN _=wd1 at *
     have HB1:Hid (Bw W0 wd1):=by
      show RowKit.Below _ _ _
      rw [←hwd];exact below_drewN HB.out _
     have HQwd1:Hid (Bw wr wd1):=by
      show RowKit.Below _ _ _
      rw [←hwd];exact below_drewN (zAq _) _
     clear hwd;clear b2 c2 bl cl x0 xl y0 yl;go_upto_region 5 with (fail)
     have SW:Hid (∀W:World,Bw wd1 W→(W.cell? ⟨B,0,none⟩=some (.string p)∧W.cell? ⟨B,2,none⟩=some (.slice (some ⟨ba,oa,none⟩) n ca)∧B<W.heap.size∧C<W.heap.size∧ba<W.heap.size∧S11 W ba (oa+i * 11) a ana cna saa csa)):=fun W hW=>⟨(G1.out.below (zA HB1.out hW)).cell (i:=0) (v:=.string p) rfl,(G1.out.below (zA HB1.out hW)).cell (i:=2) (v:=.slice (some ⟨ba,oa,none⟩) n ca) rfl,(G1.out.below (zA HB1.out hW)).lt,(G2.out.below (zA HB1.out hW)).lt,Nat.lt_of_lt_of_le HLA.out (zA HB0.out (zA HB1.out hW)).size,zTw HCA.out HLA.out (zA HB0.out (zA HB1.out hW))⟩
     have hdr:Bw wd1 wd1.drew:=(Mod.refl [] wd1).drew.below;have HDX:=lH hdr;refine wp_region_noPanic (zAl (fun W:World=>W.cell? ⟨B,0,none⟩=some (.string p)∧W.cell? ⟨B,2,none⟩=some (.slice (some ⟨ba,oa,none⟩) n ca)∧B<W.heap.size∧C<W.heap.size∧ba<W.heap.size∧S11 W ba (oa+i * 11) a ana cna saa csa) 11 [(true,0),(true,1),(true,2),(true,3),(true,4),(true,5),(true,6),(true,7),(false,8),(true,9),(false,10)] zAp (by kernel_rfl) (fun _ _ _ _ _ h=>h) (SW.out _ hdr) ?_);clear hdr
     iterate 8 (refine zAj (v:=?_) rfl (by rfl) ?_ ?_;rotate_left;(focus (intro wq hSw;(try dsimp only [S11] at hSw);go_simp;(try rw [if_neg (by first|omega|(simp;omega))]);(try with_reducible rfl)));(try simp only [gA,gB,gC,Act.put,gD,gE,gF]))
     generalize wd1.drew=we at *
     (refine zAk rfl (by rfl) (fun K hK=>?_);go_simp)
     obtain ⟨B1,hB1⟩:∃B1,we.heap.size=B1:=⟨_,rfl⟩;have hq1:=zAb we (.cells (dA a ana cna saa csa) 62);have hbx1:CBox (we.alloc (.cells (dA a ana cna saa csa) 62)) B1 62 (declL a ana cna saa csa).toArray:=by rw [←hB1];exact CBox.new _ _ _
     rw [hB1];generalize World.alloc we _=W1 at *;refine hK.out _ _ (SW.out _ (zA HDX.out hq1)) ?_;clear hK K
     (try simp only [gA,gB,gC,Act.put,gD,gE,gF])
     (refine zAj (v:=?_) rfl (by rfl) ?_ ?_;rotate_left;(focus (intro wq hSw;(try dsimp only [S11] at hSw);go_simp;(try rw [if_neg (by first|omega|(simp;omega))]);(try with_reducible rfl)));(try simp only [gA,gB,gC,Act.put,gD,gE,gF]))
     (refine zAk rfl (by rfl) (fun K hK=>?_);go_simp)
     have hq2:=zAb W1 (.cells #[.int .i64 6,.string p,.string ⟨#[]⟩,.slice (some ⟨B1,0,none⟩) 1 1,.slice none 0 0] 39);have hR:=zAg (zAw W1 W1.heap.size (Nat.le_refl _) 39 #[.int .i64 6,.string p,.string ⟨#[]⟩,.slice (some ⟨B1,0,none⟩) 1 1,.slice none 0 0] 5 1 rfl (by omega));generalize World.alloc W1 _=W2 at *;refine hK.out _ _ (SW.out _ (zA HDX.out (zA hq1 hq2))) ?_;clear hK K
     (try simp only [gA,gB,gC,Act.put,gD,gE,gF])
     refine zAt ?_;have hq12:=zA hq1 hq2;obtain ⟨ys,hown,hys⟩:=(HW.out.1.below HQwd1.out).below HDX.out;have HOW:=lH (zAe hown hq12);have hge:∀k',Value.ownBlock (.slice oa0 out.length oc0)=some k'→W0.heap.size≤k'∧k'<we.heap.size:=fun k' hk'=>hown.lt k' hk';have hYs:ReadsL W2 ((Value.ownBlock (.slice oa0 out.length oc0)).toList++X) (out.flatMap editT) ys:=hys.below hq12
     have hnewX:ReadsL W2 ((Value.ownBlock (.slice oa0 out.length oc0)).toList++X) (declT a) (declL a ana cna saa csa):=(zCy HRDa.out (fun k' hk'=>Nat.le_trans HB0.out.size (hge k' (by simpa using hk')).1)).below (zA HB0.out (zA HB1.out (zA HDX.out hq12)))
     have hB1n:B1∉(Value.ownBlock (.slice oa0 out.length oc0)).toList++X:=fun c=>by
      rcases List.mem_append.1 c with c|c
      ·have:=(hge B1 (by simpa using c)).2;omega
      ·have:=HXX.out B1 c;have:=HB1.out.size;have:=HDX.out.size;omega
     have HNEW:=lH (zDi (k:=6) (p:=p) (zCl (hbx1.below hq2) hnewX hB1n) (Reads.nilRow _ _ _ _));have HYS:=lH hYs;have HR:=lH hR;have HBN:=lH (zA HB1.out (zA HDX.out hq12));have hsw:=HBN.out.size;have hln:=HW.out.2;clear hown hys hbx1 hq1 hq2 hq12 hge hYs hnewX hB1n hR SW;simp only [List.drop_succ_cons,List.drop_zero]
     refine zAa rfl _ _ 23 rfl W0.heap.size 39 i0 _ 5 88 Tryz.underlying23 hi0 hz0 hz1 hz2 hzs (by decide) _ _ _ rfl HOW.out _ _ _ rfl HR.out (by intro u hu;simp only [List.mem_cons,List.not_mem_nil,or_false] at hu;rcases hu with rfl|rfl|rfl|rfl|rfl<;>rfl) (by unfold maxLen;omega) (by omega) (by omega) ?_;intro v5 w5 hown5 hg5 hbk5;have HB5:=lH (HBN.out.grown hg5 (by omega) (fun x hx=>(HOW.out.lt x hx).1));have hO5:OwnT w5 X W0.heap.size 39 5 editT v5 (out++[remD p a]):=OwnT.grown HOW.out HYS.out HNEW.out hown5 hg5 hbk5
     have HO5:Hid (OwnT w5 X W0.heap.size 39 5 editT v5 (out++[remD p a])∧3 * ((n - (i+1))+(m - k0))+(out++[remD p a]).length≤K):=⟨hO5,by rw [List.length_append,List.length_singleton];omega⟩;clear hown5 hg5 hbk5 hO5 HOW HYS HNEW HR HW hln hsw hB1;go_wp2;refine NoPanic.normal ?_;go_wp2;go_roundw
     case rel=>exact ⟨i+1,k0,_,by omega,by omega,by go_num,by go_num,HN,HO5,HB5⟩
     case measure=>simp [intOf];omega
    have q1:decide (a.id<b.id)=false:=decide_eq_false hlt
    by_cases hgt:b.id<a.id
    ·have q2:decide (b.id<a.id)=true:=decide_eq_true hgt
     have HN:Hid (T=(out++[addD p b])++declE p (xs.drop i) (bs.drop (k0+1))):=by
      show _=_
      rw [HI.out,zDl HGA.out,zDl HGB.out];exact zTo hlt hgt
     clear HI hlt hgt;have x0:wr.cell? ⟨ba,oa+i * 11,none⟩=some (.int .i64 a.id):=(HBW.out.cell (p:=⟨ba,_,none⟩) HLA.out).trans (HCA.out 0 _ rfl);have xl:ba<wr.heap.size:=Nat.lt_of_lt_of_le HLA.out HBW.out.size;have y0:wr.cell? ⟨bb,ob+k0 * 11,none⟩=some (.int .i64 b.id):=(HBW.out.cell (p:=⟨bb,_,none⟩) HLB.out).trans (HCB.out 0 _ rfl);have yl:bb<wr.heap.size:=Nat.lt_of_lt_of_le HLB.out HBW.out.size;go_upto_region 4 with (fail)
     go_quiet (fail)
     generalize hwd:wr.drewN _=wd1 at *
     have HB1:Hid (Bw W0 wd1):=by
      show RowKit.Below _ _ _
      rw [←hwd];exact below_drewN HB.out _
     have HQwd1:Hid (Bw wr wd1):=by
      show RowKit.Below _ _ _
      rw [←hwd];exact below_drewN (zAq _) _
     clear hwd;clear b2 c2 bl cl x0 xl y0 yl;have HBV:=lH (zA HB0.out HB1.out);have b2v:=(G1.out.below HB1.out).cell (i:=2) (v:=.slice (some ⟨ba,oa,none⟩) n ca) rfl;have c2v:=(G2.out.below HB1.out).cell (i:=2) (v:=.slice (some ⟨bb,ob,none⟩) m cb) rfl;have blv:=(G1.out.below HB1.out).lt;have clv:=(G2.out.below HB1.out).lt;have x0:wd1.cell? ⟨ba,oa+i * 11,none⟩=some (.int .i64 a.id):=(HBV.out.cell (p:=⟨ba,_,none⟩) HLA.out).trans (HCA.out 0 _ rfl);have xl:ba<wd1.heap.size:=Nat.lt_of_lt_of_le HLA.out HBV.out.size
     have y0:wd1.cell? ⟨bb,ob+k0 * 11,none⟩=some (.int .i64 b.id):=(HBV.out.cell (p:=⟨bb,_,none⟩) HLB.out).trans (HCB.out 0 _ rfl);have yl:bb<wd1.heap.size:=Nat.lt_of_lt_of_le HLB.out HBV.out.size;go_upto_region 7 with (fail)
     go_quiet (fail)
     generalize hwd:wd1.drewN _=wd2 at *
     have HB2:Hid (Bw W0 wd2):=by
      show RowKit.Below _ _ _
      rw [←hwd];exact below_drewN HB1.out _
     have HQwd2:Hid (Bw wd1 wd2):=by
      show RowKit.Below _ _ _
      rw [←hwd];exact below_drewN (zAq _) _
     clear hwd;clear b2v c2v blv clv x0 xl y0 yl;go_upto_region 8 with (fail)
     have SW:Hid (∀W:World,Bw wd2 W→(W.cell? ⟨B,0,none⟩=some (.string p)∧W.cell? ⟨C,2,none⟩=some (.slice (some ⟨bb,ob,none⟩) m cb)∧B<W.heap.size∧C<W.heap.size∧bb<W.heap.size∧S11 W bb (ob+k0 * 11) b anb cnb sab csb)):=fun W hW=>⟨(G1.out.below (zA HB2.out hW)).cell (i:=0) (v:=.string p) rfl,(G2.out.below (zA HB2.out hW)).cell (i:=2) (v:=.slice (some ⟨bb,ob,none⟩) m cb) rfl,(G1.out.below (zA HB2.out hW)).lt,(G2.out.below (zA HB2.out hW)).lt,Nat.lt_of_lt_of_le HLB.out (zA HB0.out (zA HB2.out hW)).size,zTw HCB.out HLB.out (zA HB0.out (zA HB2.out hW))⟩
     have hdr:Bw wd2 wd2.drew:=(Mod.refl [] wd2).drew.below;have HDX:=lH hdr;refine wp_region_noPanic (zAl (fun W:World=>W.cell? ⟨B,0,none⟩=some (.string p)∧W.cell? ⟨C,2,none⟩=some (.slice (some ⟨bb,ob,none⟩) m cb)∧B<W.heap.size∧C<W.heap.size∧bb<W.heap.size∧S11 W bb (ob+k0 * 11) b anb cnb sab csb) 11 [(true,0),(true,1),(true,2),(true,3),(true,4),(true,5),(true,6),(true,7),(false,8),(true,9),(false,10)] zAp (by kernel_rfl) (fun _ _ _ _ _ h=>h) (SW.out _ hdr) ?_);clear hdr
     iterate 8 (refine zAj (v:=?_) rfl (by rfl) ?_ ?_;rotate_left;(focus (intro wq hSw;(try dsimp only [S11] at hSw);go_simp;(try rw [if_neg (by first|omega|(simp;omega))]);(try with_reducible rfl)));(try simp only [gA,gB,gC,Act.put,gD,gE,gF]))
     generalize wd2.drew=we at *
     (refine zAk rfl (by rfl) (fun K hK=>?_);go_simp)
     obtain ⟨B1,hB1⟩:∃B1,we.heap.size=B1:=⟨_,rfl⟩;have hq1:=zAb we (.cells (dA b anb cnb sab csb) 62);have hbx1:CBox (we.alloc (.cells (dA b anb cnb sab csb) 62)) B1 62 (declL b anb cnb sab csb).toArray:=by rw [←hB1];exact CBox.new _ _ _
     rw [hB1];generalize World.alloc we _=W1 at *;refine hK.out _ _ (SW.out _ (zA HDX.out hq1)) ?_;clear hK K
     (try simp only [gA,gB,gC,Act.put,gD,gE,gF])
     (refine zAj (v:=?_) rfl (by rfl) ?_ ?_;rotate_left;(focus (intro wq hSw;(try dsimp only [S11] at hSw);go_simp;(try rw [if_neg (by first|omega|(simp;omega))]);(try with_reducible rfl)));(try simp only [gA,gB,gC,Act.put,gD,gE,gF]))
     (refine zAk rfl (by rfl) (fun K hK=>?_);go_simp)
     have hq2:=zAb W1 (.cells #[.int .i64 5,.string p,.string ⟨#[]⟩,.slice none 0 0,.slice (some ⟨B1,0,none⟩) 1 1] 39);have hR:=zAg (zAw W1 W1.heap.size (Nat.le_refl _) 39 #[.int .i64 5,.string p,.string ⟨#[]⟩,.slice none 0 0,.slice (some ⟨B1,0,none⟩) 1 1] 5 1 rfl (by omega));generalize World.alloc W1 _=W2 at *;refine hK.out _ _ (SW.out _ (zA HDX.out (zA hq1 hq2))) ?_;clear hK K
     (try simp only [gA,gB,gC,Act.put,gD,gE,gF])
     refine zAt ?_;have hq12:=zA hq1 hq2;obtain ⟨ys,hown,hys⟩:=(HW.out.1.below (zA HQwd1.out HQwd2.out)).below HDX.out;have HOW:=lH (zAe hown hq12);have hge:∀k',Value.ownBlock (.slice oa0 out.length oc0)=some k'→W0.heap.size≤k'∧k'<we.heap.size:=fun k' hk'=>hown.lt k' hk';have hYs:ReadsL W2 ((Value.ownBlock (.slice oa0 out.length oc0)).toList++X) (out.flatMap editT) ys:=hys.below hq12
     have hnewX:ReadsL W2 ((Value.ownBlock (.slice oa0 out.length oc0)).toList++X) (declT b) (declL b anb cnb sab csb):=(zCy HRDb.out (fun k' hk'=>Nat.le_trans HB0.out.size (hge k' (by simpa using hk')).1)).below (zA HB0.out (zA HB2.out (zA HDX.out hq12)))
     have hB1n:B1∉(Value.ownBlock (.slice oa0 out.length oc0)).toList++X:=fun c=>by
      rcases List.mem_append.1 c with c|c
      ·have:=(hge B1 (by simpa using c)).2;omega
      ·have:=HXX.out B1 c;have:=HB2.out.size;have:=HDX.out.size;omega
     have HNEW:=lH (zDi (k:=5) (p:=p) (Reads.nilRow _ _ _ _) (zCl (hbx1.below hq2) hnewX hB1n));have HYS:=lH hYs;have HR:=lH hR;have HBN:=lH (zA HB2.out (zA HDX.out hq12));have hsw:=HBN.out.size;have hln:=HW.out.2;clear hown hys hbx1 hq1 hq2 hq12 hge hYs hnewX hB1n hR SW;simp only [List.drop_succ_cons,List.drop_zero]
     refine zAa rfl _ _ 23 rfl W0.heap.size 39 i0 _ 5 88 Tryz.underlying23 hi0 hz0 hz1 hz2 hzs (by decide) _ _ _ rfl HOW.out _ _ _ rfl HR.out (by intro u hu;simp only [List.mem_cons,List.not_mem_nil,or_false] at hu;rcases hu with rfl|rfl|rfl|rfl|rfl<;>rfl) (by unfold maxLen;omega) (by omega) (by omega) ?_;intro v5 w5 hown5 hg5 hbk5;have HB5:=lH (HBN.out.grown hg5 (by omega) (fun x hx=>(HOW.out.lt x hx).1));have hO5:OwnT w5 X W0.heap.size 39 5 editT v5 (out++[addD p b]):=OwnT.grown HOW.out HYS.out HNEW.out hown5 hg5 hbk5
     have HO5:Hid (OwnT w5 X W0.heap.size 39 5 editT v5 (out++[addD p b])∧3 * ((n - i)+(m - (k0+1)))+(out++[addD p b]).length≤K):=⟨hO5,by rw [List.length_append,List.length_singleton];omega⟩;clear hown5 hg5 hbk5 hO5 HOW HYS HNEW HR HW hln hsw hB1;go_wp2;refine NoPanic.normal ?_;go_wp2;go_roundw
     case rel=>exact ⟨i,k0+1,_,by omega,by omega,by go_num,by go_num,HN,HO5,HB5⟩
     case measure=>simp [intOf];omega
    ·have q2:decide (b.id<a.id)=false:=decide_eq_false hgt
     have HN:Hid (T=(out++kindsF p a b [7,8,9])++declE p (xs.drop (i+1)) (bs.drop (k0+1))):=by
      show _=_
      rw [HI.out,zDl HGA.out,zDl HGB.out];exact zTp hlt hgt
     clear HI hlt hgt;have x0:wr.cell? ⟨ba,oa+i * 11,none⟩=some (.int .i64 a.id):=(HBW.out.cell (p:=⟨ba,_,none⟩) HLA.out).trans (HCA.out 0 _ rfl);have xl:ba<wr.heap.size:=Nat.lt_of_lt_of_le HLA.out HBW.out.size;have y0:wr.cell? ⟨bb,ob+k0 * 11,none⟩=some (.int .i64 b.id):=(HBW.out.cell (p:=⟨bb,_,none⟩) HLB.out).trans (HCB.out 0 _ rfl);have yl:bb<wr.heap.size:=Nat.lt_of_lt_of_le HLB.out HBW.out.size;go_upto_region 4 with (fail)
     go_quiet (fail)
     generalize hwd:wr.drewN _=wd1 at *
     have HB1:Hid (Bw W0 wd1):=by
      show RowKit.Below _ _ _
      rw [←hwd];exact below_drewN HB.out _
     have HQwd1:Hid (Bw wr wd1):=by
      show RowKit.Below _ _ _
      rw [←hwd];exact below_drewN (zAq _) _
     clear hwd;clear b2 c2 bl cl x0 xl y0 yl;have HBV:=lH (zA HB0.out HB1.out);have b2v:=(G1.out.below HB1.out).cell (i:=2) (v:=.slice (some ⟨ba,oa,none⟩) n ca) rfl;have c2v:=(G2.out.below HB1.out).cell (i:=2) (v:=.slice (some ⟨bb,ob,none⟩) m cb) rfl;have blv:=(G1.out.below HB1.out).lt;have clv:=(G2.out.below HB1.out).lt;have x0:wd1.cell? ⟨ba,oa+i * 11,none⟩=some (.int .i64 a.id):=(HBV.out.cell (p:=⟨ba,_,none⟩) HLA.out).trans (HCA.out 0 _ rfl);have xl:ba<wd1.heap.size:=Nat.lt_of_lt_of_le HLA.out HBV.out.size
     have y0:wd1.cell? ⟨bb,ob+k0 * 11,none⟩=some (.int .i64 b.id):=(HBV.out.cell (p:=⟨bb,_,none⟩) HLB.out).trans (HCB.out 0 _ rfl);have yl:bb<wd1.heap.size:=Nat.lt_of_lt_of_le HLB.out HBV.out.size;go_upto_region 7 with (fail)
     go_quiet (fail)
     generalize hwd:wd1.drewN _=wd2 at *
     have HB2:Hid (Bw W0 wd2):=by
      show RowKit.Below _ _ _
      rw [←hwd];exact below_drewN HB1.out _
     have HQwd2:Hid (Bw wd1 wd2):=by
      show RowKit.Below _ _ _
      rw [←hwd];exact below_drewN (zAq _) _
     clear hwd;clear b2v c2v blv clv x0 xl y0 yl;have HOW3:=lH (HW.out.1.below (zA HQwd1.out HQwd2.out));have hln:=HW.out.2;have HN0:Hid (T=(out++kindsF p a b (([7,8,9]:List Int).drop 0))++declE p (xs.drop (i+1)) (bs.drop (k0+1))):=HN;obtain ⟨v0,hv0⟩:∃v,Value.slice oa0 out.length oc0=v:=⟨_,rfl⟩;rw [hv0] at HOW3;go_upto_region 10 with (fail)
     rw [hv0];clear hv0 HW HN;go_wp2;generalize wr=wo at *
     go_loopw [8,5] (fun jv ov wr=>∃(j:Nat) (k:Int) (o2:List OEdit),j≤3∧jv=.int .i64 k∧Hid (k=7+(j:Int))∧Hid (T=(o2++kindsF p a b (([7,8,9]:List Int).drop j))++declE p (xs.drop (i+1)) (bs.drop (k0+1)))∧Hid (OwnT wr X W0.heap.size 39 5 editT ov o2∧o2.length≤out.length+j)∧Hid (Bw W0 wr)) (fun jv _ _=>10 - (intOf jv).toNat)
     case atStart=>exact ⟨0,7,out,by omega,rfl,rfl,HN0,⟨HOW3.out,Nat.le_refl _⟩,HB2⟩
     case round=>
      clear HN0 HOW3 HB2 HB1 HB HBV HBW HQwd1 HQwd2;obtain ⟨j,k,o2,hj3,rfl,HJ,HI,HW,HBQ⟩:=hrel;have hln2:=HW.out.2;obtain ⟨oa1,oc1,rfl,-,-⟩:=HW.out.1.val
      by_cases hj:j<3
      ·have hk9:k≤9:=by have:=HJ.out;omega
       have hk7:7≤k:=by have:=HJ.out;omega
       have hd5:decide (k≤9)=true:=decide_eq_true hk9;have HK:Hid (k=7∨k=8∨k=9):=by show _∨_;omega
       have hgk:([7,8,9]:List Int)[j]?=some k:=by rw [HJ.out];exact zZb hj
       have HN:=lH (HI.out.trans (congrArg (fun z=>(o2++z)++declE p (xs.drop (i+1)) (bs.drop (k0+1))) (zQp (p:=p) (a:=a) (b:=b) hgk)));clear hgk HI;have HC1:=lH (fun W:World=>zQv k HK.out a ana cna saa csa W);have HC2:=lH (fun W:World=>zQv k HK.out b anb cnb sab csb W);unfold declV at HC1 HC2;have hb0:Bw wr wr.drew:=(Mod.refl [] wr).drew.below;go_upto_region 13 with (fail)
       go_cut [9,10] from 103 to 131 (fun P1 P2 wx=>∃D1 D2,P1=.pointer (some ⟨D1,0,none⟩)∧P2=.pointer (some ⟨D2,0,none⟩)∧CBox wx D1 62 #[.int .i64 (partD k a).id,.int .i64 (partD k a).kind,.bool (partD k a).pub,.slice (mtA k ana) (partD k a).names.length (mC k cna),.bool (partD k a).doubt,.int .i64 (partD k a).body.kind,.string (partD k a).body.name,.string (partD k a).body.more,.int .i64 (partD k a).body.num,.int .i64 (partD k a).body.den,.slice (sA k saa) (partD k a).body.subs.length (sC k csa)]∧CBox wx D2 62 #[.int .i64 (partD k b).id,.int .i64 (partD k b).kind,.bool (partD k b).pub,.slice (mtA k anb) (partD k b).names.length (mC k cnb),.bool (partD k b).doubt,.int .i64 (partD k b).body.kind,.string (partD k b).body.name,.string (partD k b).body.more,.int .i64 (partD k b).body.num,.int .i64 (partD k b).body.den,.slice (sA k sab) (partD k b).body.subs.length (sC k csb)]∧RowKit.Below wr.heap.size wr wx)
       case first=>
        refine wp_region_noPanic (zLy 16 14 15 (fun k W=>CBox W k 62 dZ) (fun i' v _=>Q16 (.pointer (some ⟨B,2,none⟩)) (.slice (some ⟨ba,oa,none⟩) n ca) (.int .i64 i) (.pointer (some ⟨ba,oa+i * 11,none⟩)) (.agg #[.int .i64 a.id,.int .i64 a.kind,.bool a.pub,.slice ana a.names.length cna,.bool a.doubt,.int .i64 a.body.kind,.string a.body.name,.string a.body.more,.int .i64 a.body.num,.int .i64 a.body.den,.slice saa a.body.subs.length csa]) (.int .i64 k) (.agg #[.int .i64 (partD k a).id,.int .i64 (partD k a).kind,.bool (partD k a).pub,.slice (mtA k ana) (partD k a).names.length (mC k cna),.bool (partD k a).doubt,.int .i64 (partD k a).body.kind,.string (partD k a).body.name,.string (partD k a).body.more,.int .i64 (partD k a).body.num,.int .i64 (partD k a).body.den,.slice (sA k saa) (partD k a).body.subs.length (sC k csa)]) (.pointer (some ⟨C,2,none⟩)) (.slice (some ⟨bb,ob,none⟩) m cb) (.int .i64 k0) (.pointer (some ⟨bb,ob+k0 * 11,none⟩)) (.agg #[.int .i64 b.id,.int .i64 b.kind,.bool b.pub,.slice anb b.names.length cnb,.bool b.doubt,.int .i64 b.body.kind,.string b.body.name,.string b.body.more,.int .i64 b.body.num,.int .i64 b.body.den,.slice sab b.body.subs.length csb]) (.int .i64 k) (.agg #[.int .i64 (partD k b).id,.int .i64 (partD k b).kind,.bool (partD k b).pub,.slice (mtA k anb) (partD k b).names.length (mC k cnb),.bool (partD k b).doubt,.int .i64 (partD k b).body.kind,.string (partD k b).body.name,.string (partD k b).body.more,.int .i64 (partD k b).body.num,.int .i64 (partD k b).body.den,.slice (sA k sab) (partD k b).body.subs.length (sC k csb)]) i' v) (by decide) (by decide) (by decide) zAp (by kernel_rfl) (fun _ _ _ h=>h) (by kernel_rfl) (fun _ _ _ _ h _=>h) (fun _ _ _ h _ k=>h.below k) ?_ (by kernel_rfl) (AllD.all (by kernel_rfl) (by kernel_rfl) ?_) ?_)
        ·rintro i' o' (rfl|rfl) ho
         ·obtain rfl:=Option.some.inj ho
          exact ⟨rfl,fun a w1 K hK=>zGs rfl (hK.out _ (zAb _ _) (by rw [World.size_alloc];omega) (CBox.new _ _ _))⟩
         ·obtain rfl:=Option.some.inj ho
          exact ⟨rfl,fun a w1 K hK=>zGs rfl (hK.out _ (zAb _ _) (by rw [World.size_alloc];omega) (CBox.new _ _ _))⟩
        ·show AllD _ _ _ _ _ _ _ _ _ 0 (_::_)
         refine AllD.step ?_ ?_
         ·intro fa vals w1 hf hbw hn
          refine ⟨(fun _ _ e=>by cases e),fun K hK=>?_⟩;exact zNj rfl ((hf.out 2 (by kernel_rfl)).trans rfl) (hK.out _ _ (zAq _) rfl)
         refine AllD.step ?_ ?_
         ·intro fa vals w1 hf hbw hn
          refine ⟨(fun _ _ e=>by cases e),fun K hK=>?_⟩;exact zQw rfl ((hf.at_ 0 103 (by decide) rfl).trans (hn 0 (by decide))) ((G1.out.below (zA HBQ.out hbw)).lt) ((G1.out.below (zA HBQ.out hbw)).cell (i:=2) (v:=(.slice (some ⟨ba,oa,none⟩) n ca)) rfl) (hK.out _ _ (zAq _) rfl)
         refine AllD.step ?_ ?_
         ·intro fa vals w1 hf hbw hn
          refine ⟨(fun _ _ e=>by cases e),fun K hK=>?_⟩;exact zEp rfl (hK.out _ _ (zAq _) ((hf.out 6 (by kernel_rfl)).trans rfl))
         refine AllD.step ?_ ?_
         ·intro fa vals w1 hf hbw hn
          refine ⟨(fun _ _ e=>by cases e),fun K hK=>?_⟩;exact zQx rfl ((hf.at_ 1 104 (by decide) rfl).trans (hn 1 (by decide))) ((hf.at_ 2 105 (by decide) rfl).trans (hn 2 (by decide))) hlti (hK.out _ _ (zAq _) rfl)
         refine AllD.step ?_ ?_
         ·intro fa vals w1 hf hbw hn
          refine ⟨(fun _ _ e=>by cases e),fun K hK=>?_⟩;exact zHz rfl ((hf.at_ 3 106 (by decide) rfl).trans (hn 3 (by decide))) (fun j u hj=>((zA HB0.out (zA HBQ.out hbw)).cell (p:=⟨ba,_,none⟩) HLA.out).trans (HCA.out j u hj)) (hK.out _ _ (zAq _) rfl)
         refine AllD.step ?_ ?_
         ·intro fa vals w1 hf hbw hn
          refine ⟨(fun _ _ e=>by cases e),fun K hK=>?_⟩;exact zEp rfl (hK.out _ _ (zAq _) ((hf.out 8 (by kernel_rfl)).trans rfl))
         refine AllD.step ?_ ?_
         ·intro fa vals w1 hf hbw hn
          refine ⟨(fun _ _ e=>by cases e),fun K hK=>?_⟩
          exact zJt (vs:=#[(.agg #[.int .i64 a.id,.int .i64 a.kind,.bool a.pub,.slice ana a.names.length cna,.bool a.doubt,.int .i64 a.body.kind,.string a.body.name,.string a.body.more,.int .i64 a.body.num,.int .i64 a.body.den,.slice saa a.body.subs.length csa]),.int .i64 k]) rfl rfl (by simp only [List.map_toArray,List.map_cons,List.map_nil];rw [((hf.at_ 4 107 (by decide) rfl).trans (hn 4 (by decide))),((hf.at_ 5 108 (by decide) rfl).trans (hn 5 (by decide)))]) (enters_of Tryz.func93 (by kernel_rfl) rfl) ((HC1.out w1).mono fun e w2 h=>⟨_,h.1,hK.out _ _ h.2 rfl⟩)
         refine AllD.step ?_ ?_
         ·intro fa vals w1 hf hbw hn
          refine ⟨(fun _ _ e=>by cases e),fun K hK=>?_⟩;exact zNj rfl ((hf.out 3 (by kernel_rfl)).trans rfl) (hK.out _ _ (zAq _) rfl)
         refine AllD.step ?_ ?_
         ·intro fa vals w1 hf hbw hn
          refine ⟨(fun _ _ e=>by cases e),fun K hK=>?_⟩;exact zQw rfl ((hf.at_ 7 110 (by decide) rfl).trans (hn 7 (by decide))) ((G2.out.below (zA HBQ.out hbw)).lt) ((G2.out.below (zA HBQ.out hbw)).cell (i:=2) (v:=(.slice (some ⟨bb,ob,none⟩) m cb)) rfl) (hK.out _ _ (zAq _) rfl)
         refine AllD.step ?_ ?_
         ·intro fa vals w1 hf hbw hn
          refine ⟨(fun _ _ e=>by cases e),fun K hK=>?_⟩;exact zEp rfl (hK.out _ _ (zAq _) ((hf.out 7 (by kernel_rfl)).trans rfl))
         refine AllD.step ?_ ?_
         ·intro fa vals w1 hf hbw hn
          refine ⟨(fun _ _ e=>by cases e),fun K hK=>?_⟩;exact zQx rfl ((hf.at_ 8 111 (by decide) rfl).trans (hn 8 (by decide))) ((hf.at_ 9 112 (by decide) rfl).trans (hn 9 (by decide))) hltk (hK.out _ _ (zAq _) rfl)
         refine AllD.step ?_ ?_
         ·intro fa vals w1 hf hbw hn
          refine ⟨(fun _ _ e=>by cases e),fun K hK=>?_⟩;exact zHz rfl ((hf.at_ 10 113 (by decide) rfl).trans (hn 10 (by decide))) (fun j u hj=>((zA HB0.out (zA HBQ.out hbw)).cell (p:=⟨bb,_,none⟩) HLB.out).trans (HCB.out j u hj)) (hK.out _ _ (zAq _) rfl)
         refine AllD.step ?_ ?_
         ·intro fa vals w1 hf hbw hn
          refine ⟨(fun _ _ e=>by cases e),fun K hK=>?_⟩;exact zEp rfl (hK.out _ _ (zAq _) ((hf.out 8 (by kernel_rfl)).trans rfl))
         refine AllD.step ?_ ?_
         ·intro fa vals w1 hf hbw hn
          refine ⟨(fun _ _ e=>by cases e),fun K hK=>?_⟩
          exact zJt (vs:=#[(.agg #[.int .i64 b.id,.int .i64 b.kind,.bool b.pub,.slice anb b.names.length cnb,.bool b.doubt,.int .i64 b.body.kind,.string b.body.name,.string b.body.more,.int .i64 b.body.num,.int .i64 b.body.den,.slice sab b.body.subs.length csb]),.int .i64 k]) rfl rfl (by simp only [List.map_toArray,List.map_cons,List.map_nil];rw [((hf.at_ 11 114 (by decide) rfl).trans (hn 11 (by decide))),((hf.at_ 12 115 (by decide) rfl).trans (hn 12 (by decide)))]) (enters_of Tryz.func93 (by kernel_rfl) rfl) ((HC2.out w1).mono fun e w2 h=>⟨_,h.1,hK.out _ _ h.2 rfl⟩)
         refine AllD.skipA ?_;refine AllD.skipB ?_;exact trivial
        ·intro D1 D2 vals V2 hbw hg1 hg2 hl1 hl2 hne e10 e11 hx1 hx2 hr
         have e4:vals 6=(.agg #[.int .i64 (partD k a).id,.int .i64 (partD k a).kind,.bool (partD k a).pub,.slice (mtA k ana) (partD k a).names.length (mC k cna),.bool (partD k a).doubt,.int .i64 (partD k a).body.kind,.string (partD k a).body.name,.string (partD k a).body.more,.int .i64 (partD k a).body.num,.int .i64 (partD k a).body.den,.slice (sA k saa) (partD k a).body.subs.length (sC k csa)]):=hr 6 (by decide) (by decide) (by decide)
         have e9:vals 13=(.agg #[.int .i64 (partD k b).id,.int .i64 (partD k b).kind,.bool (partD k b).pub,.slice (mtA k anb) (partD k b).names.length (mC k cnb),.bool (partD k b).doubt,.int .i64 (partD k b).body.kind,.string (partD k b).body.name,.string (partD k b).body.more,.int .i64 (partD k b).body.num,.int .i64 (partD k b).body.den,.slice (sA k sab) (partD k b).body.subs.length (sC k csb)]):=hr 13 (by decide) (by decide) (by decide)
         refine zQm (h:=by simp only [fullR,dstR,List.getElem?_toArray,List.getElem?_cons_succ,List.getElem?_cons_zero,Option.bind_some,Act.put,List.setIfInBounds_toArray,List.set_cons_zero,List.set_cons_succ,e4,e9,e10,e11];rfl) ?_;clear hr e4 e9 e10 e11;generalize vals 0=u80;generalize vals 1=u81;generalize vals 2=u82;generalize vals 3=u83;generalize vals 4=u84;generalize vals 5=u85;generalize vals 7=u87;generalize vals 8=u88;generalize vals 9=u89;generalize vals 10=u90;generalize vals 11=u91
         generalize vals 12=u92;clear vals HC1 HC2 hb0;have hn12:D2≠D1:=fun e=>hne e.symm;refine zJu rfl (zGt rfl rfl rfl hx1 fun v1 X1 m1 c1=>?_);have k2:=hx2.mod m1 (by simpa using hn12);have hbb1:=hbw.trans (m1.upto hbw.size (by intro q hq;simp at hq;omega));refine zJu rfl (zGt rfl rfl rfl k2 fun v2 X2 m2 c2=>?_);have k1:=c1.mod m2 (by simpa using hne);have hbb2:=hbb1.trans (m2.upto hbb1.size (by intro q hq;simp at hq;omega));refine wpList_nil ?_;refine NoPanic.normal ?_
         (try simp only [Act.put])
         (try go_wp2)
         go_meet
         case rel=>exact ⟨_,_,rfl,rfl,k1,c2,hbb2⟩
       case rest=>
       obtain ⟨D1,D2,rfl,rfl,hc1,hc2,hb6⟩:=hcut;clear HC1 HC2 hb0;have HD1:=lH hc1;have HD2:=lH hc2;have HB6:=lH (zA HBQ.out hb6);have HQ6:=lH hb6;clear hc1 hc2 hb6;generalize wc=W6 at *;have HEQ:=lH (zHq (partD k a) (partD k b) (mtA k ana) (mC k cna) (sA k saa) (sC k csa) (mtA k anb) (mC k cnb) (sA k sab) (sC k csb) W6 (zJv HK.out (HDIa.out.below (zA HB0.out HB6.out))) (zJv HK.out (HDIb.out.below (zA HB0.out HB6.out))) (zFe HSMa.out).1 (zFe HSMa.out).2);unfold declV at HEQ
       generalize hsd:sameD (partD k a) (partD k b)=sd at *;clear hsd;obtain ⟨x0,x1,x2,x3,x4,x5,x6,x7,x8,x9,x10,xl⟩:=zBh HD1.out;obtain ⟨y0,y1,y2,y3,y4,y5,y6,y7,y8,y9,y10,yl⟩:=zBh HD2.out;go_wp2_with (fail)
       refine HEQ.out.mono ?_;rintro r W7 ⟨rfl,hb7⟩;have HD1':=lH (HD1.out.below hb7);have HD2':=lH (HD2.out.below hb7);have HB7:=lH (zA HB6.out hb7);have HQ7:=lH (zA HQ6.out hb7);clear hb7 HEQ HD1 HD2 HB6 HQ6;clear x0 y0 x1 y1 x2 y2 x3 y3 x4 y4 x5 y5 x6 y6 x7 y7 x8 y8 x9 y9 x10 y10 xl yl
       cases sd with
       | true=>
        simp only [if_true] at HN
        have HO7:Hid (OwnT W7 X W0.heap.size 39 5 editT (.slice oa1 o2.length oc1) o2∧o2.length≤out.length+(j+1)):=⟨HW.out.1.below HQ7.out,by omega⟩;have HJ1:Hid (k+1=7+((j+1:Nat):Int)):=by show _=_;have:=HJ.out;omega
        clear HW;go_wp2;go_roundw
        case rel=>exact ⟨j+1,k+1,o2,by omega,by go_num,HJ1,HN,HO7,HB7⟩
        case measure=>simp [intOf];omega
       | false=>
        simp only [Bool.false_eq_true,if_false] at HN
        rw [zGp] at HN;obtain ⟨x0,x1,x2,x3,x4,x5,x6,x7,x8,x9,x10,xl⟩:=zBh (HD1'.out);obtain ⟨y0,y1,y2,y3,y4,y5,y6,y7,y8,y9,y10,yl⟩:=zBh (HD2'.out);obtain ⟨ys,hown,hys⟩:=HW.out.1.below HQ7.out;obtain ⟨B1,hB1⟩:∃B1,W7.heap.size=B1:=⟨_,rfl⟩;have pb:=(G1.out.below HB7.out).cell (i:=0) (v:=.string p) rfl;have plb:=(G1.out.below HB7.out).lt;have plb2:B<B1:=by rw [←hB1];exact plb
        have yl2:D2<B1:=by rw [←hB1];exact yl
        have hq1:=zAb W7 (.cells #[.int .i64 (partD k a).id,.int .i64 (partD k a).kind,.bool (partD k a).pub,.slice (mtA k ana) (partD k a).names.length (mC k cna),.bool (partD k a).doubt,.int .i64 (partD k a).body.kind,.string (partD k a).body.name,.string (partD k a).body.more,.int .i64 (partD k a).body.num,.int .i64 (partD k a).body.den,.slice (sA k saa) (partD k a).body.subs.length (sC k csa)] 62)
        have hbx1:CBox (W7.alloc (.cells #[.int .i64 (partD k a).id,.int .i64 (partD k a).kind,.bool (partD k a).pub,.slice (mtA k ana) (partD k a).names.length (mC k cna),.bool (partD k a).doubt,.int .i64 (partD k a).body.kind,.string (partD k a).body.name,.string (partD k a).body.more,.int .i64 (partD k a).body.num,.int .i64 (partD k a).body.den,.slice (sA k saa) (partD k a).body.subs.length (sC k csa)] 62)) B1 62 (declL (partD k a) (mtA k ana) (mC k cna) (sA k saa) (sC k csa)).toArray:=by rw [←hB1];exact CBox.new _ _ _
        have hs1:(W7.alloc (.cells #[.int .i64 (partD k a).id,.int .i64 (partD k a).kind,.bool (partD k a).pub,.slice (mtA k ana) (partD k a).names.length (mC k cna),.bool (partD k a).doubt,.int .i64 (partD k a).body.kind,.string (partD k a).body.name,.string (partD k a).body.more,.int .i64 (partD k a).body.num,.int .i64 (partD k a).body.den,.slice (sA k saa) (partD k a).body.subs.length (sC k csa)] 62)).heap.size=B1+1:=by rw [World.size_alloc,hB1]
        obtain ⟨W8,hW8⟩:∃W8,W8=W7.alloc (.cells #[.int .i64 (partD k a).id,.int .i64 (partD k a).kind,.bool (partD k a).pub,.slice (mtA k ana) (partD k a).names.length (mC k cna),.bool (partD k a).doubt,.int .i64 (partD k a).body.kind,.string (partD k a).body.name,.string (partD k a).body.more,.int .i64 (partD k a).body.num,.int .i64 (partD k a).body.den,.slice (sA k saa) (partD k a).body.subs.length (sC k csa)] 62):=⟨_,rfl⟩;rw [←hW8] at hq1 hbx1 hs1
        have hq2:=zAb W8 (.cells #[.int .i64 (partD k b).id,.int .i64 (partD k b).kind,.bool (partD k b).pub,.slice (mtA k anb) (partD k b).names.length (mC k cnb),.bool (partD k b).doubt,.int .i64 (partD k b).body.kind,.string (partD k b).body.name,.string (partD k b).body.more,.int .i64 (partD k b).body.num,.int .i64 (partD k b).body.den,.slice (sA k sab) (partD k b).body.subs.length (sC k csb)] 62)
        have hbx2:CBox (W8.alloc (.cells #[.int .i64 (partD k b).id,.int .i64 (partD k b).kind,.bool (partD k b).pub,.slice (mtA k anb) (partD k b).names.length (mC k cnb),.bool (partD k b).doubt,.int .i64 (partD k b).body.kind,.string (partD k b).body.name,.string (partD k b).body.more,.int .i64 (partD k b).body.num,.int .i64 (partD k b).body.den,.slice (sA k sab) (partD k b).body.subs.length (sC k csb)] 62)) (B1+1) 62 (declL (partD k b) (mtA k anb) (mC k cnb) (sA k sab) (sC k csb)).toArray:=by rw [←hs1];exact CBox.new _ _ _
        have hs2:(W8.alloc (.cells #[.int .i64 (partD k b).id,.int .i64 (partD k b).kind,.bool (partD k b).pub,.slice (mtA k anb) (partD k b).names.length (mC k cnb),.bool (partD k b).doubt,.int .i64 (partD k b).body.kind,.string (partD k b).body.name,.string (partD k b).body.more,.int .i64 (partD k b).body.num,.int .i64 (partD k b).body.den,.slice (sA k sab) (partD k b).body.subs.length (sC k csb)] 62)).heap.size=B1+1+1:=by rw [World.size_alloc,hs1]
        obtain ⟨W9,hW9⟩:∃W9,W9=W8.alloc (.cells #[.int .i64 (partD k b).id,.int .i64 (partD k b).kind,.bool (partD k b).pub,.slice (mtA k anb) (partD k b).names.length (mC k cnb),.bool (partD k b).doubt,.int .i64 (partD k b).body.kind,.string (partD k b).body.name,.string (partD k b).body.more,.int .i64 (partD k b).body.num,.int .i64 (partD k b).body.den,.slice (sA k sab) (partD k b).body.subs.length (sC k csb)] 62):=⟨_,rfl⟩;rw [←hW9] at hq2 hbx2 hs2
        have hq3:=zAb W9 (.cells #[.int .i64 k,.string p,.string ⟨#[]⟩,.slice (some ⟨B1,0,none⟩) 1 1,.slice (some ⟨B1+1,0,none⟩) 1 1] 39);have hR:=zAg (zAw W9 W9.heap.size (Nat.le_refl _) 39 #[.int .i64 k,.string p,.string ⟨#[]⟩,.slice (some ⟨B1,0,none⟩) 1 1,.slice (some ⟨B1+1,0,none⟩) 1 1] 5 1 rfl (by omega));obtain ⟨W10,hW10⟩:∃W10,W10=W9.alloc (.cells #[.int .i64 k,.string p,.string ⟨#[]⟩,.slice (some ⟨B1,0,none⟩) 1 1,.slice (some ⟨B1+1,0,none⟩) 1 1] 39):=⟨_,rfl⟩;rw [←hW10] at hq3 hR;rw [hs2] at hR
        have HW8:=lH hW8;have HW9:=lH hW9;have HW10:=lH hW10;clear hW8 hW9 hW10;have hq123:=zA hq1 (zA hq2 hq3);have HOW:=lH (zAe hown hq123);have hge:∀k',Value.ownBlock (.slice oa1 o2.length oc1)=some k'→W0.heap.size≤k'∧k'<W7.heap.size:=fun k' hk'=>hown.lt k' hk';have hge':∀k'∈(Value.ownBlock (.slice oa1 o2.length oc1)).toList,w.heap.size≤k':=fun k' hk'=>Nat.le_trans HB0.out.size (hge k' (by simpa using hk')).1
        have hYs:ReadsL W10 ((Value.ownBlock (.slice oa1 o2.length oc1)).toList++X) (o2.flatMap editT) ys:=hys.below hq123;have hnewA:ReadsL W10 ((Value.ownBlock (.slice oa1 o2.length oc1)).toList++X) (declT (partD k a)) (declL (partD k a) (mtA k ana) (mC k cna) (sA k saa) (sC k csa)):=zOo HK.out ((zBk HRNa.out hge').below (zA HB0.out (zA HB7.out hq123))) ((zBk HRSa.out hge').below (zA HB0.out (zA HB7.out hq123)))
        have hnewB:ReadsL W10 ((Value.ownBlock (.slice oa1 o2.length oc1)).toList++X) (declT (partD k b)) (declL (partD k b) (mtA k anb) (mC k cnb) (sA k sab) (sC k csb)):=zOo HK.out ((zBk HRNb.out hge').below (zA HB0.out (zA HB7.out hq123))) ((zBk HRSb.out hge').below (zA HB0.out (zA HB7.out hq123)))
        have hBn:∀B,W7.heap.size≤B→B∉(Value.ownBlock (.slice oa1 o2.length oc1)).toList++X:=fun B hB c=>by
         rcases List.mem_append.1 c with c|c
         ·have:=(hge B (by simpa using c)).2;omega
         ·have:=HXX.out B c;have:=HB7.out.size;omega
        have hsz8:=hq1.size;have HNEW:=lH (zDi (k:=k) (p:=p) (zCl (hbx1.below (zA hq2 hq3)) hnewA (hBn B1 (by omega))) (zCl (hbx2.below hq3) hnewB (hBn (B1+1) (by omega))));have HYS:=lH hYs;have HR:=lH hR;have HBN:=lH (zA HB7.out hq123);have hsw:=HBN.out.size;have HSZ:Hid (W7.heap.size≤W10.heap.size):=hq123.size;clear hown hys hbx1 hbx2 hq1 hq2 hq3 hq123 hge hge' hYs hnewA hnewB hBn hR hsz8
        go_wp2_with (at_builtin;(try rw [hB1]);(try rw [←HW8.out]);(try rw [←HW9.out]);(try rw [←HW10.out]);refine zAa rfl _ _ 23 rfl W0.heap.size 39 i0 _ 5 88 Tryz.underlying23 hi0 hz0 hz1 hz2 hzs (by decide) _ _ _ rfl HOW.out _ _ _ rfl HR.out (by intro u hu;simp only [List.mem_cons,List.not_mem_nil,or_false] at hu;rcases hu with rfl|rfl|rfl|rfl|rfl<;>rfl) (by unfold maxLen;omega) (by omega) (by omega) ?_)
        intro v5 w5 hown5 hg5 hbk5;have HB5:=lH (HBN.out.grown hg5 (by omega) (fun x hx=>(HOW.out.lt x hx).1));have hO5:OwnT w5 X W0.heap.size 39 5 editT v5 (o2++[partE7 p a b k]):=OwnT.grown HOW.out HYS.out HNEW.out hown5 hg5 hbk5;have HO5:Hid (OwnT w5 X W0.heap.size 39 5 editT v5 (o2++[partE7 p a b k])∧(o2++[partE7 p a b k]).length≤out.length+(j+1)):=⟨hO5,by rw [List.length_append,List.length_singleton];omega⟩;have HJ1:Hid (k+1=7+((j+1:Nat):Int)):=by show _=_;have:=HJ.out;omega
        clear hown5 hg5 hbk5 hO5 HW8 HW9 HW10 hB1 hs1 hs2 HOW HYS HNEW HR HW hsw HSZ;clear x0 y0 x1 y1 x2 y2 x3 y3 x4 y4 x5 y5 x6 y6 x7 y7 x8 y8 x9 y9 x10 y10 xl yl yl2 pb plb plb2;go_wp2;go_roundw
        case rel=>exact ⟨j+1,k+1,_,by omega,by go_num,HJ1,HN,HO5,HB5⟩
        case measure=>simp [intOf];omega
      ·obtain rfl:j=3:=by omega
       obtain rfl:k=10:=by have:=HJ.out;omega
       have HN:Hid (T=o2++declE p (xs.drop (i+1)) (bs.drop (k0+1))):=by
        show _=_
        rw [HI.out];have:kindsF p a b (([7,8,9]:List Int).drop 3)=[]:=rfl;rw [this,List.append_nil]
       have HO8:Hid (OwnT wr X W0.heap.size 39 5 editT (.slice oa1 o2.length oc1) o2∧3 * ((n - (i+1))+(m - (k0+1)))+o2.length≤K):=⟨HW.out.1,by have:=HW.out.2;omega⟩;clear HI HW HJ hj hj3;go_wp2;go_roundw
       case rel=>exact ⟨i+1,k0+1,o2,by omega,by omega,by go_num,by go_num,HN,HO8,HBQ⟩
       case measure=>simp [intOf];omega
   ·obtain rfl:k0=m:=by omega
    have hdk:decide ((k0:Int)<(k0:Int))=false:=decide_eq_false (by omega)
    have HN:Hid (T=(out++[remD p a])++declE p (xs.drop (i+1)) (bs.drop k0)):=by
     show _=_
     have e:bs.drop k0=[]:=List.drop_eq_nil_of_le (by rw [HNB.out];exact Nat.le_refl _);rw [HI.out,zDl HGA.out,e];exact zYr
    clear HI hltk;go_upto_region 4 with (fail)
    go_quiet (fail)
    generalize hwd:wr.drewN _=wd1 at *
    have HB1:Hid (Bw W0 wd1):=by
     show RowKit.Below _ _ _
     rw [←hwd];exact below_drewN HB.out _
    have HQwd1:Hid (Bw wr wd1):=by
     show RowKit.Below _ _ _
     rw [←hwd];exact below_drewN (zAq _) _
    clear hwd;clear b2 c2 bl cl;go_upto_region 5 with (fail)
    have SW:Hid (∀W:World,Bw wd1 W→(W.cell? ⟨B,0,none⟩=some (.string p)∧W.cell? ⟨B,2,none⟩=some (.slice (some ⟨ba,oa,none⟩) n ca)∧B<W.heap.size∧C<W.heap.size∧ba<W.heap.size∧S11 W ba (oa+i * 11) a ana cna saa csa)):=fun W hW=>⟨(G1.out.below (zA HB1.out hW)).cell (i:=0) (v:=.string p) rfl,(G1.out.below (zA HB1.out hW)).cell (i:=2) (v:=.slice (some ⟨ba,oa,none⟩) n ca) rfl,(G1.out.below (zA HB1.out hW)).lt,(G2.out.below (zA HB1.out hW)).lt,Nat.lt_of_lt_of_le HLA.out (zA HB0.out (zA HB1.out hW)).size,zTw HCA.out HLA.out (zA HB0.out (zA HB1.out hW))⟩
    have hdr:Bw wd1 wd1.drew:=(Mod.refl [] wd1).drew.below;have HDX:=lH hdr;refine wp_region_noPanic (zAl (fun W:World=>W.cell? ⟨B,0,none⟩=some (.string p)∧W.cell? ⟨B,2,none⟩=some (.slice (some ⟨ba,oa,none⟩) n ca)∧B<W.heap.size∧C<W.heap.size∧ba<W.heap.size∧S11 W ba (oa+i * 11) a ana cna saa csa) 11 [(true,0),(true,1),(true,2),(true,3),(true,4),(true,5),(true,6),(true,7),(false,8),(true,9),(false,10)] zAp (by kernel_rfl) (fun _ _ _ _ _ h=>h) (SW.out _ hdr) ?_);clear hdr
    iterate 8 (refine zAj (v:=?_) rfl (by rfl) ?_ ?_;rotate_left;(focus (intro wq hSw;(try dsimp only [S11] at hSw);go_simp;(try rw [if_neg (by first|omega|(simp;omega))]);(try with_reducible rfl)));(try simp only [gA,gB,gC,Act.put,gD,gE,gF]))
    generalize wd1.drew=we at *
    (refine zAk rfl (by rfl) (fun K hK=>?_);go_simp)
    obtain ⟨B1,hB1⟩:∃B1,we.heap.size=B1:=⟨_,rfl⟩;have hq1:=zAb we (.cells (dA a ana cna saa csa) 62);have hbx1:CBox (we.alloc (.cells (dA a ana cna saa csa) 62)) B1 62 (declL a ana cna saa csa).toArray:=by rw [←hB1];exact CBox.new _ _ _
    rw [hB1];generalize World.alloc we _=W1 at *;refine hK.out _ _ (SW.out _ (zA HDX.out hq1)) ?_;clear hK K
    (try simp only [gA,gB,gC,Act.put,gD,gE,gF])
    (refine zAj (v:=?_) rfl (by rfl) ?_ ?_;rotate_left;(focus (intro wq hSw;(try dsimp only [S11] at hSw);go_simp;(try rw [if_neg (by first|omega|(simp;omega))]);(try with_reducible rfl)));(try simp only [gA,gB,gC,Act.put,gD,gE,gF]))
    (refine zAk rfl (by rfl) (fun K hK=>?_);go_simp)
    have hq2:=zAb W1 (.cells #[.int .i64 6,.string p,.string ⟨#[]⟩,.slice (some ⟨B1,0,none⟩) 1 1,.slice none 0 0] 39);have hR:=zAg (zAw W1 W1.heap.size (Nat.le_refl _) 39 #[.int .i64 6,.string p,.string ⟨#[]⟩,.slice (some ⟨B1,0,none⟩) 1 1,.slice none 0 0] 5 1 rfl (by omega));generalize World.alloc W1 _=W2 at *;refine hK.out _ _ (SW.out _ (zA HDX.out (zA hq1 hq2))) ?_;clear hK K
    (try simp only [gA,gB,gC,Act.put,gD,gE,gF])
    refine zAt ?_;have hq12:=zA hq1 hq2;obtain ⟨ys,hown,hys⟩:=(HW.out.1.below HQwd1.out).below HDX.out;have HOW:=lH (zAe hown hq12);have hge:∀k',Value.ownBlock (.slice oa0 out.length oc0)=some k'→W0.heap.size≤k'∧k'<we.heap.size:=fun k' hk'=>hown.lt k' hk';have hYs:ReadsL W2 ((Value.ownBlock (.slice oa0 out.length oc0)).toList++X) (out.flatMap editT) ys:=hys.below hq12
    have hnewX:ReadsL W2 ((Value.ownBlock (.slice oa0 out.length oc0)).toList++X) (declT a) (declL a ana cna saa csa):=(zCy HRDa.out (fun k' hk'=>Nat.le_trans HB0.out.size (hge k' (by simpa using hk')).1)).below (zA HB0.out (zA HB1.out (zA HDX.out hq12)))
    have hB1n:B1∉(Value.ownBlock (.slice oa0 out.length oc0)).toList++X:=fun c=>by
     rcases List.mem_append.1 c with c|c
     ·have:=(hge B1 (by simpa using c)).2;omega
     ·have:=HXX.out B1 c;have:=HB1.out.size;have:=HDX.out.size;omega
    have HNEW:=lH (zDi (k:=6) (p:=p) (zCl (hbx1.below hq2) hnewX hB1n) (Reads.nilRow _ _ _ _));have HYS:=lH hYs;have HR:=lH hR;have HBN:=lH (zA HB1.out (zA HDX.out hq12));have hsw:=HBN.out.size;have hln:=HW.out.2;clear hown hys hbx1 hq1 hq2 hq12 hge hYs hnewX hB1n hR SW;simp only [List.drop_succ_cons,List.drop_zero]
    refine zAa rfl _ _ 23 rfl W0.heap.size 39 i0 _ 5 88 Tryz.underlying23 hi0 hz0 hz1 hz2 hzs (by decide) _ _ _ rfl HOW.out _ _ _ rfl HR.out (by intro u hu;simp only [List.mem_cons,List.not_mem_nil,or_false] at hu;rcases hu with rfl|rfl|rfl|rfl|rfl<;>rfl) (by unfold maxLen;omega) (by omega) (by omega) ?_;intro v5 w5 hown5 hg5 hbk5;have HB5:=lH (HBN.out.grown hg5 (by omega) (fun x hx=>(HOW.out.lt x hx).1));have hO5:OwnT w5 X W0.heap.size 39 5 editT v5 (out++[remD p a]):=OwnT.grown HOW.out HYS.out HNEW.out hown5 hg5 hbk5
    have HO5:Hid (OwnT w5 X W0.heap.size 39 5 editT v5 (out++[remD p a])∧3 * ((n - (i+1))+(k0 - k0))+(out++[remD p a]).length≤K):=⟨hO5,by rw [List.length_append,List.length_singleton];omega⟩;clear hown5 hg5 hbk5 hO5 HOW HYS HNEW HR HW hln hsw hB1;go_wp2;refine NoPanic.normal ?_;go_wp2;go_roundw
    case rel=>exact ⟨i+1,k0,_,by omega,by omega,by go_num,by go_num,HN,HO5,HB5⟩
    case measure=>simp [intOf];omega
  ·obtain rfl:i=n:=by omega
   have hdi:decide ((i:Int)<(i:Int))=false:=decide_eq_false (by omega)
   by_cases hltk:k0<m
   ·have hdk:decide ((k0:Int)<(m:Int))=true:=decide_eq_true (by omega)
    have hkz:((k0:Int)==(m:Int))=false:=by simp;omega
    have hkr:(k0:Int)<(m:Int):=by omega
    obtain ⟨b,hgb⟩:∃b,bs[k0]?=some b:=⟨_,List.getElem?_eq_getElem (by rw [HNB.out];omega)⟩;obtain ⟨bb,ob,anb,cnb,sab,csb,eab,hlb,hcb,hrdb,hdib,hrnb,hrsb⟩:=zIx HRB0.out hgb;have HGB:=lH hgb;subst eab;have HLB:=lH hlb;have HCB:=lH hcb;have HRDb:=lH hrdb;have HDIb:=lH hdib;have HRNb:=lH hrnb;have HRSb:=lH hrsb;have HSMb:=lH (HSB.out b (List.mem_of_getElem? hgb));clear hcb hrdb hdib hrnb hrsb hlb hgb
    have HN:Hid (T=(out++[addD p b])++declE p (xs.drop i) (bs.drop (k0+1))):=by
     show _=_
     have e:xs.drop i=[]:=List.drop_eq_nil_of_le (by rw [HNX.out];exact Nat.le_refl _);rw [HI.out,zDl HGB.out,e];exact zYs
    clear HI hlti;go_upto_region 4 with (fail)
    go_quiet (fail)
    generalize hwd:wr.drewN _=wd1 at *
    have HB1:Hid (Bw W0 wd1):=by
     show RowKit.Below _ _ _
     rw [←hwd];exact below_drewN HB.out _
    have HQwd1:Hid (Bw wr wd1):=by
     show RowKit.Below _ _ _
     rw [←hwd];exact below_drewN (zAq _) _
    clear hwd;clear b2 c2 bl cl;have HBV:=lH (zA HB0.out HB1.out);have b2v:=(G1.out.below HB1.out).cell (i:=2) (v:=.slice da i ca) rfl;have c2v:=(G2.out.below HB1.out).cell (i:=2) (v:=.slice (some ⟨bb,ob,none⟩) m cb) rfl;have blv:=(G1.out.below HB1.out).lt;have clv:=(G2.out.below HB1.out).lt;go_upto_region 7 with (fail)
    go_quiet (fail)
    generalize hwd:wd1.drewN _=wd2 at *
    have HB2:Hid (Bw W0 wd2):=by
     show RowKit.Below _ _ _
     rw [←hwd];exact below_drewN HB1.out _
    have HQwd2:Hid (Bw wd1 wd2):=by
     show RowKit.Below _ _ _
     rw [←hwd];exact below_drewN (zAq _) _
    clear hwd;clear b2v c2v blv clv;go_upto_region 8 with (fail)
    have SW:Hid (∀W:World,Bw wd2 W→(W.cell? ⟨B,0,none⟩=some (.string p)∧W.cell? ⟨C,2,none⟩=some (.slice (some ⟨bb,ob,none⟩) m cb)∧B<W.heap.size∧C<W.heap.size∧bb<W.heap.size∧S11 W bb (ob+k0 * 11) b anb cnb sab csb)):=fun W hW=>⟨(G1.out.below (zA HB2.out hW)).cell (i:=0) (v:=.string p) rfl,(G2.out.below (zA HB2.out hW)).cell (i:=2) (v:=.slice (some ⟨bb,ob,none⟩) m cb) rfl,(G1.out.below (zA HB2.out hW)).lt,(G2.out.below (zA HB2.out hW)).lt,Nat.lt_of_lt_of_le HLB.out (zA HB0.out (zA HB2.out hW)).size,zTw HCB.out HLB.out (zA HB0.out (zA HB2.out hW))⟩
    have hdr:Bw wd2 wd2.drew:=(Mod.refl [] wd2).drew.below;have HDX:=lH hdr;refine wp_region_noPanic (zAl (fun W:World=>W.cell? ⟨B,0,none⟩=some (.string p)∧W.cell? ⟨C,2,none⟩=some (.slice (some ⟨bb,ob,none⟩) m cb)∧B<W.heap.size∧C<W.heap.size∧bb<W.heap.size∧S11 W bb (ob+k0 * 11) b anb cnb sab csb) 11 [(true,0),(true,1),(true,2),(true,3),(true,4),(true,5),(true,6),(true,7),(false,8),(true,9),(false,10)] zAp (by kernel_rfl) (fun _ _ _ _ _ h=>h) (SW.out _ hdr) ?_);clear hdr
    iterate 8 (refine zAj (v:=?_) rfl (by rfl) ?_ ?_;rotate_left;(focus (intro wq hSw;(try dsimp only [S11] at hSw);go_simp;(try rw [if_neg (by first|omega|(simp;omega))]);(try with_reducible rfl)));(try simp only [gA,gB,gC,Act.put,gD,gE,gF]))
    generalize wd2.drew=we at *
    (refine zAk rfl (by rfl) (fun K hK=>?_);go_simp)
    obtain ⟨B1,hB1⟩:∃B1,we.heap.size=B1:=⟨_,rfl⟩;have hq1:=zAb we (.cells (dA b anb cnb sab csb) 62);have hbx1:CBox (we.alloc (.cells (dA b anb cnb sab csb) 62)) B1 62 (declL b anb cnb sab csb).toArray:=by rw [←hB1];exact CBox.new _ _ _
    rw [hB1];generalize World.alloc we _=W1 at *;refine hK.out _ _ (SW.out _ (zA HDX.out hq1)) ?_;clear hK K
    (try simp only [gA,gB,gC,Act.put,gD,gE,gF])
    (refine zAj (v:=?_) rfl (by rfl) ?_ ?_;rotate_left;(focus (intro wq hSw;(try dsimp only [S11] at hSw);go_simp;(try rw [if_neg (by first|omega|(simp;omega))]);(try with_reducible rfl)));(try simp only [gA,gB,gC,Act.put,gD,gE,gF]))
    (refine zAk rfl (by rfl) (fun K hK=>?_);go_simp)
    have hq2:=zAb W1 (.cells #[.int .i64 5,.string p,.string ⟨#[]⟩,.slice none 0 0,.slice (some ⟨B1,0,none⟩) 1 1] 39);have hR:=zAg (zAw W1 W1.heap.size (Nat.le_refl _) 39 #[.int .i64 5,.string p,.string ⟨#[]⟩,.slice none 0 0,.slice (some ⟨B1,0,none⟩) 1 1] 5 1 rfl (by omega));generalize World.alloc W1 _=W2 at *;refine hK.out _ _ (SW.out _ (zA HDX.out (zA hq1 hq2))) ?_;clear hK K
    (try simp only [gA,gB,gC,Act.put,gD,gE,gF])
    refine zAt ?_;have hq12:=zA hq1 hq2;obtain ⟨ys,hown,hys⟩:=(HW.out.1.below (zA HQwd1.out HQwd2.out)).below HDX.out;have HOW:=lH (zAe hown hq12);have hge:∀k',Value.ownBlock (.slice oa0 out.length oc0)=some k'→W0.heap.size≤k'∧k'<we.heap.size:=fun k' hk'=>hown.lt k' hk';have hYs:ReadsL W2 ((Value.ownBlock (.slice oa0 out.length oc0)).toList++X) (out.flatMap editT) ys:=hys.below hq12
    have hnewX:ReadsL W2 ((Value.ownBlock (.slice oa0 out.length oc0)).toList++X) (declT b) (declL b anb cnb sab csb):=(zCy HRDb.out (fun k' hk'=>Nat.le_trans HB0.out.size (hge k' (by simpa using hk')).1)).below (zA HB0.out (zA HB2.out (zA HDX.out hq12)))
    have hB1n:B1∉(Value.ownBlock (.slice oa0 out.length oc0)).toList++X:=fun c=>by
     rcases List.mem_append.1 c with c|c
     ·have:=(hge B1 (by simpa using c)).2;omega
     ·have:=HXX.out B1 c;have:=HB2.out.size;have:=HDX.out.size;omega
    have HNEW:=lH (zDi (k:=5) (p:=p) (Reads.nilRow _ _ _ _) (zCl (hbx1.below hq2) hnewX hB1n));have HYS:=lH hYs;have HR:=lH hR;have HBN:=lH (zA HB2.out (zA HDX.out hq12));have hsw:=HBN.out.size;have hln:=HW.out.2;clear hown hys hbx1 hq1 hq2 hq12 hge hYs hnewX hB1n hR SW;simp only [List.drop_succ_cons,List.drop_zero]
    refine zAa rfl _ _ 23 rfl W0.heap.size 39 i0 _ 5 88 Tryz.underlying23 hi0 hz0 hz1 hz2 hzs (by decide) _ _ _ rfl HOW.out _ _ _ rfl HR.out (by intro u hu;simp only [List.mem_cons,List.not_mem_nil,or_false] at hu;rcases hu with rfl|rfl|rfl|rfl|rfl<;>rfl) (by unfold maxLen;omega) (by omega) (by omega) ?_;intro v5 w5 hown5 hg5 hbk5;have HB5:=lH (HBN.out.grown hg5 (by omega) (fun x hx=>(HOW.out.lt x hx).1));have hO5:OwnT w5 X W0.heap.size 39 5 editT v5 (out++[addD p b]):=OwnT.grown HOW.out HYS.out HNEW.out hown5 hg5 hbk5
    have HO5:Hid (OwnT w5 X W0.heap.size 39 5 editT v5 (out++[addD p b])∧3 * ((i - i)+(m - (k0+1)))+(out++[addD p b]).length≤K):=⟨hO5,by rw [List.length_append,List.length_singleton];omega⟩;clear hown5 hg5 hbk5 hO5 HOW HYS HNEW HR HW hln hsw hB1;go_wp2;refine NoPanic.normal ?_;go_wp2;go_roundw
    case rel=>exact ⟨i,k0+1,_,by omega,by omega,by go_num,by go_num,HN,HO5,HB5⟩
    case measure=>simp [intOf];omega
   ·obtain rfl:k0=m:=by omega
    have hdk:decide ((k0:Int)<(k0:Int))=false:=decide_eq_false (by omega)
    have HF:Hid (T=out):=by
     show _=_
     rw [HI.out,List.drop_eq_nil_of_le (show xs.length≤i by rw [HNX.out];exact Nat.le_refl _),List.drop_eq_nil_of_le (show bs.length≤k0 by rw [HNB.out];exact Nat.le_refl _),declE,List.append_nil]
    have HO2:Hid (OwnT wr X w.heap.size 39 5 editT (.slice oa0 out.length oc0) T):=by show OwnT _ _ _ _ _ _ _ _;rw [HF.out];exact HW.out.1.lower HB0.out.size
    clear HI HW HF hlti hltk;go_wp2;go_ret;exact ⟨_,rfl,HO2.out,HBW.out⟩
theorem zZc {l:List ByteArray} {s y:ByteArray} (h:Hit ltB id l s y):withL l s=l:=by
 have e:placeW l s=plc ltB id l s:=rfl;have hy:y=s:=h.ky;have h1:=h.elt;obtain ⟨hi,e1⟩:=List.getElem?_eq_some_iff.1 h1;unfold withL;rw [e,if_pos ⟨hi,by unfold sAt;rw [List.getD_eq_getElem?_getD,h1];show y.toList=_;rw [hy]⟩]
theorem yC {l:List ByteArray} (ha:Asc ltB id l) (s:ByteArray):Asc ltB id (withL l s)∧∀x,x∈withL l s↔x=s∨x∈l:=by
 rcases zBf zD ha s with ⟨y,H⟩|H
 ·have hy:y=s:=H.ky
  rw [zZc H];refine ⟨ha,fun x=>⟨.inr,fun h=>?_⟩⟩
  rcases h with rfl|h
  ·exact hy▸List.mem_of_getElem? H.elt
  ·exact h
 ·rw [zVl H]
  refine ⟨H.ins s rfl,fun x=>?_⟩;unfold insAt;rw [List.mem_append,List.mem_cons]
  constructor
  ·rintro (h|h|h)
   ·exact .inr (List.mem_of_mem_take h)
   ·exact .inl h
   ·exact .inr (List.mem_of_mem_drop h)
  ·rintro (h|h)
   ·exact .inr (.inl h)
   ·rw [←List.take_append_drop (plc ltB id l s) l,List.mem_append] at h
    rcases h with h|h
    ·exact .inl h
    ·exact .inr (.inr h)
def labsF (l:List ByteArray) (m:List OMod):List ByteArray:=m.foldl (fun l m=>withL l m.label) l
theorem zSo:∀(m:List OMod) {l:List ByteArray},Asc ltB id l→Asc ltB id (labsF l m)∧∀x,x∈labsF l m↔x∈l∨∃k∈m,k.label=x
 | [],l,h=>⟨h,fun x=>⟨.inl,fun h=>h.elim (fun h=>h) (fun ⟨_,h,_⟩=>by cases h)⟩⟩
 | k::r,l,h=>by
  obtain ⟨h1,h2⟩:=yC h k.label;obtain ⟨h3,h4⟩:=zSo r h1;refine ⟨h3,fun x=>?_⟩;show x∈labsF (withL l k.label) r↔_
  rw [h4 x,h2 x]
  constructor
  ·rintro ((rfl|h)|⟨y,hy,e⟩)
   ·exact .inr ⟨k,List.mem_cons_self ..,rfl⟩
   ·exact .inl h
   ·exact .inr ⟨y,List.mem_cons_of_mem _ hy,e⟩
  ·rintro (h|⟨y,hy,e⟩)
   ·exact .inl (.inr h)
   ·rcases List.mem_cons.1 hy with rfl|hy
    ·exact .inl (.inl e.symm)
    ·exact .inr ⟨y,hy,e⟩
theorem zKa:∀(m:List OMod) (l:List ByteArray),(labsF l m).length≤l.length+m.length
 | [],l=>Nat.le_refl _
 | k::r,l=>by
  have h1:=zKa r (withL l k.label);have h2:=zPn l k.label;show (labsF (withL l k.label) r).length≤_
  rw [List.length_cons];omega
theorem zQz {l:List ByteArray} {A:List OMod} {i:Nat} {m:OMod} (h:A[i]?=some m):labsF l (A.take (i+1))=withL (labsF l (A.take i)) m.label:=by
 unfold labsF;rw [zDs h,List.foldl_append];rfl
theorem yDv {A B:List OMod} (ha:Asc ltB OMod.label A) (hb:Asc ltB OMod.label B):labsF (labsF [] A) B=(pairsL A B).map Pair.label:=by
 obtain ⟨h1,h2,h3⟩:=zGo _ rfl ha hb;obtain ⟨a1,a2⟩:=zSo A (l:=[]) List.Pairwise.nil;obtain ⟨b1,b2⟩:=zSo B a1;refine zN (key:=id) zD b1 ?_ (fun x=>?_)
 ·unfold Asc
  rw [List.pairwise_map];exact h1
 ·rw [b2 x,a2 x,List.mem_map]
  constructor
  ·rintro ((h|⟨m,hm,rfl⟩)|⟨m,hm,rfl⟩)
   ·cases h
   ·exact h3 m (.inl hm)
   ·exact h3 m (.inr hm)
  ·rintro ⟨p,hp,rfl⟩
   rcases (h2 p hp).2.2 with ⟨m,hm,e⟩|⟨m,hm,e⟩
   ·exact .inl (.inr ⟨m,hm,e⟩)
   ·exact .inr ⟨m,hm,e⟩
theorem zNk {w:World} {X:List Nat} {v:Value} (h:Reads w [] (declsT []) v):Reads w X (declsT []) v:=by
 obtain ⟨xs,hr,-,hx⟩:=Reads.toRow h;refine Reads.ofRow (l:=([]:List ODecl)) hr (fun h0=>absurd h0 (by simp)) ?_;rw [List.flatMap_nil,ReadsL] at hx ⊢;exact hx
theorem zOs {w:World} {X:List Nat}:∀{l:List OEdit} {xs:List Value},(∀e∈l,e.old=[]∧e.fresh=[])→ReadsL w [] (l.flatMap editT) xs→ReadsL w X (l.flatMap editT) xs
 | [],xs,_,h=>by
  rw [List.flatMap_nil,ReadsL] at h ⊢;exact h
 | e::r,xs,hb,h=>by
  rw [List.flatMap_cons] at h ⊢;have h1:=h.take 5;have h2:=h.drop 5;have hl:(editT e).length=5:=rfl;rw [List.take_left' hl] at h1;rw [List.drop_left' hl] at h2;have h3:=zOs (X:=X) (fun x hx=>hb x (List.mem_cons_of_mem _ hx)) h2
  have h4:ReadsL w X (editT e) (xs.take 5):=by
   obtain ⟨ao,co,an,cn,e1,-,-,ho,-,-,hf⟩:=zGa h1;obtain ⟨b1,b2⟩:=hb e (List.mem_cons_self ..);rw [e1];refine ReadsL.cons (Reads.leaf' _ _ _) (ReadsL.cons (Reads.leaf' _ _ _) (ReadsL.cons (Reads.leaf' _ _ _) (ReadsL.cons ?_ (ReadsL.cons ?_ (ReadsL.nil _ _)))))
   ·rw [b1] at ho ⊢;exact zNk ho
   ·rw [b2] at hf ⊢;exact zNk hf
  have:=ReadsL.append h3 h4;rwa [List.take_append_drop] at this
theorem zNl (k:Int) (p:ByteArray) (us os:List ByteArray):∀e∈useE k p us os,e.old=[]∧e.fresh=[]:=by
 intro e he;unfold useE at he;obtain ⟨u,-,rfl⟩:=List.mem_map.1 he;exact ⟨rfl,rfl⟩
theorem zGw {w:World} {X:List Nat}:∀{l:List OEdit} {xs:List Value},ReadsL w X (l.flatMap editT) xs→∀u∈xs,u.oneCell'=true
 | [],xs,h=>by
  have:xs=[]:=by rw [List.flatMap_nil,ReadsL] at h;exact h
  subst this;intro u hu;cases hu
 | e::r,xs,h=>by
  rw [List.flatMap_cons] at h;have h1:=h.take 5;have h2:=h.drop 5;have hl:(editT e).length=5:=rfl;rw [List.take_left' hl] at h1;rw [List.drop_left' hl] at h2;intro u hu;rw [←List.take_append_drop 5 xs,List.mem_append] at hu
  rcases hu with hu|hu
  ·obtain ⟨ao,co,an,cn,e1,-⟩:=zGa h1
   rw [e1] at hu;simp only [List.mem_cons,List.not_mem_nil,or_false] at hu
   rcases hu with rfl|rfl|rfl|rfl|rfl<;>rfl
  ·exact zGw h2 u hu
theorem yCk (w:World) (X:List Nat) (k:Int) (s:ByteArray):ReadsL w X (editT ⟨k,s,noText,[],[]⟩) [.int .i64 k,.string s,.string ⟨#[]⟩,.slice none 0 0,.slice none 0 0]:=by
 have:=zK w X k s;rwa [List.flatMap_cons,List.flatMap_nil,List.append_nil] at this
theorem zOt {w:World} {X:List Nat} {ss:List ByteArray} {v:Value} (h:Reads w X (strsT ss) v):Strs w v ss:=(zAf.1 h).1
theorem zZd (A B:List OMod) (aa ab:Option Addr) (ca cb:Nat) (n:Nat) (w:World) (ha:Reads w [] (modsT A) (.slice aa A.length ca)) (hb:Reads w [] (modsT B) (.slice ab B.length cb)) (hza:SzB n A) (hzb:SzB n B) (hn:n≤100) :
  Calls Tryz.prog 15 #[.slice aa A.length ca,.slice ab B.length cb] w fun r w'=>DiffPost w A B r w':=by
 obtain ⟨i0,z,hi0,hz0,hzs,hz1,hz2⟩:=zAn zDg;have hAl:=hza.len;have hBl:=hzb.len;have HRA:=lH ha;have HRB:=lH hb;have HC1:=lH (zJl A aa ca w ha (hza.sm (by omega)) (by omega));have HC2:=lH (fun W (h:Bw w W)=>zJl B ab cb W (hb.below h) (hzb.sm (by omega)) (by omega));have HSM:=lH (zLx hza hzb hn);have HPN:=lH (zLw _ (a:=A) (b:=B) rfl);have HE1:Hid (modsErr A≠0→diffErr A B=modsErr A):=fun h=>by unfold diffErr;rw [if_neg h]
 have HE2:Hid (modsErr A=0→diffErr A B=modsErr B):=fun h=>by unfold diffErr;rw [if_pos h]
 have HEF:Hid (modsErr A=0→modsErr B=0→(diffErr A B=0∧diffR A B=diffP (pairsL A B))∧Asc ltB OMod.label A∧Asc ltB OMod.label B∧labsF (labsF [] A) B=(pairsL A B).map Pair.label∧∀p∈pairsL A B,p.a=look ltB OMod.label A p.label∧p.b=look ltB OMod.label B p.label):=fun h k=>by
  have e:diffErr A B=0:=by unfold diffErr;rw [if_pos h];exact k
  have h1:=(zCw.1 h).1;have h2:=(zCw.1 k).1;exact ⟨⟨e,by unfold diffR;rw [if_pos e];rfl⟩,h1,h2,yDv h1 h2,fun p hp=>⟨((zGo _ rfl h1 h2).2.1 p hp).1,((zGo _ rfl h1 h2).2.1 p hp).2.1⟩⟩
 clear ha hb hza hzb;generalize modsErr A=E1 at *;generalize modsErr B=E2 at *
 go_enter Tryz.func15,Tryz.ntmps15
 go_wp2_with (fail)
 refine HC1.out.mono ?_;rintro r w1 ⟨rfl,hb1⟩;have HB1:=lH hb1;clear hb1 HC1
 by_cases h0:E1=0
 rotate_left
 ·have q1:(E1 != 0)=true:=by simp [h0]
  have HX:=lH (HE1.out h0);have H0:=lH h0;clear h0;go_wp2;go_ret2;exact zJy HX.out H0.out HB1.out
 have HX2:=lH (HE2.out h0);have HXF:=lH (HEF.out h0);subst h0;clear HE1 HE2 HEF;go_wp2_with (fail)
 refine (HC2.out w1 HB1.out).mono ?_;rintro r w2 ⟨rfl,hb2⟩;have HB2:=lH (zA HB1.out hb2);clear hb2 HC2 HB1
 by_cases h0:E2=0
 rotate_left
 ·have q1:(E2 != 0)=true:=by simp [h0]
  have H0:=lH h0;clear h0;go_wp2;go_ret2;exact zJy HX2.out H0.out HB2.out
 obtain ⟨⟨hxe,hxr⟩,haa,hab,hlb,hpp⟩:=HXF.out h0;have HXE:=lH hxe;have HXR:=lH hxr;have HAA:=lH haa;have HAB:=lH hab;have HLB:=lH hlb;have HPP:=lH hpp;subst h0;clear HX2 HXF hxe hxr haa hab hlb hpp;generalize pairsL A B=ps at *;have hpn:ps.length≤200:=by have:=HPN.out;omega
 clear HPN;have HS0:Hid (Strs (w2.alloc (.cells #[] 9)) (.slice (some ⟨w2.heap.size,0,none⟩) 0 0) (labsF [] (A.take 0))):=Strs.nil _ _ _ (Nat.zero_le _);have HB0:=lH (zA HB2.out (zAb w2 (.cells #[] 9)));go_wp2
 go_loopw [9,8] (fun iv lv wr=>∃i:Nat,i≤A.length∧iv=.int .i64 i∧Hid (Strs wr lv (labsF [] (A.take i)))∧Hid (Bw w wr)) (fun iv _ _=>A.length - (intOf iv).toNat)
 case atStart=>exact ⟨0,Nat.zero_le _,rfl,HS0,HB0⟩
 case round=>
  clear HS0 HB0;obtain ⟨i,hil,rfl,HL,HBR⟩:=hrel
  have hln:(labsF [] (A.take i)).length≤200:=by
   have:=zKa (A.take i) [];rw [List.length_take] at this;simp only [List.length_nil] at this;omega
  obtain ⟨la,lc,hle,-,-,-⟩:=HL.out.shape;subst hle
  by_cases hi:i<A.length
  ·have hd:decide ((i:Int)<(A.length:Int))=true:=decide_eq_true (by omega)
   have hir:(i:Int)<(A.length:Int):=by omega
   obtain ⟨m,hm⟩:∃m,A[i]?=some m:=⟨_,List.getElem?_eq_getElem hi⟩;obtain ⟨b,o,au,cu,ad,cd,rfl,hbl,x0',-,-,-,-,-,-,-,-⟩:=zBb HRA.out hm;have x0:=(HBR.out.cell (p:=⟨b,_,none⟩) hbl).trans x0';have hbr:b<wr.heap.size:=Nat.lt_of_lt_of_le hbl HBR.out.size;have HN:=lH (zQz (l:=[]) hm);have HW:=lH (zNs (labsF [] (A.take i)) m.label la lc wr HL.out (by omega));clear x0' hbl hm HL;generalize labsF [] (A.take i)=ll at *;go_wp2_with (fail)
   refine HW.out.mono ?_;rintro r w3 ⟨v3,rfl,hs3,hb3⟩;have HS3:Hid (Strs w3 v3 (labsF [] (A.take (i+1)))):=by show Strs _ _ _;rw [HN.out];exact hs3
   have HB3:=lH (zA HBR.out hb3);clear hs3 hb3 HW HN x0 hbr;go_wp2;go_roundw
   case rel=>exact ⟨i+1,by omega,by go_num,HS3,HB3⟩
   case measure=>simp [intOf];omega
  have hd:decide ((i:Int)<(A.length:Int))=false:=decide_eq_false (by omega);obtain rfl:i=A.length:=by omega
  rw [List.take_length] at HL hln ⊢;clear hi hil;have hl1:(labsF [] A).length≤100:=by have:=zKa A [];simp only [List.length_nil] at this;omega
  generalize labsF [] A=l1 at *;have HS0:Hid (Strs wr (.slice la l1.length lc) (labsF l1 (B.take 0))):=HL.out;have HB0:=HBR;clear hln HL HBR;go_wp2;generalize wr=wo at *
  go_loopw [10,8] (fun iv lv wr=>∃i:Nat,i≤B.length∧iv=.int .i64 i∧Hid (Strs wr lv (labsF l1 (B.take i)))∧Hid (Bw w wr)) (fun iv _ _=>B.length - (intOf iv).toNat)
  case atStart=>exact ⟨0,Nat.zero_le _,rfl,HS0,HB0⟩
  case round=>
   clear HS0 HB0;obtain ⟨i,hil,rfl,HL,HBR⟩:=hrel
   have hln:(labsF l1 (B.take i)).length≤200:=by
    have:=zKa (B.take i) l1;rw [List.length_take] at this;omega
   obtain ⟨la,lc,hle,-,-,-⟩:=HL.out.shape;subst hle
   by_cases hi:i<B.length
   ·have hd:decide ((i:Int)<(B.length:Int))=true:=decide_eq_true (by omega)
    have hir:(i:Int)<(B.length:Int):=by omega
    obtain ⟨m,hm⟩:∃m,B[i]?=some m:=⟨_,List.getElem?_eq_getElem hi⟩;obtain ⟨b,o,au,cu,ad,cd,rfl,hbl,x0',-,-,-,-,-,-,-,-⟩:=zBb HRB.out hm;have x0:=(HBR.out.cell (p:=⟨b,_,none⟩) hbl).trans x0';have hbr:b<wr.heap.size:=Nat.lt_of_lt_of_le hbl HBR.out.size;have HN:=lH (zQz (l:=l1) hm);have HW:=lH (zNs (labsF l1 (B.take i)) m.label la lc wr HL.out (by omega));clear x0' hbl hm HL;generalize labsF l1 (B.take i)=ll at *;go_wp2_with (fail)
    refine HW.out.mono ?_;rintro r w3 ⟨v3,rfl,hs3,hb3⟩;have HS3:Hid (Strs w3 v3 (labsF l1 (B.take (i+1)))):=by show Strs _ _ _;rw [HN.out];exact hs3
    have HB3:=lH (zA HBR.out hb3);clear hs3 hb3 HW HN x0 hbr;go_wp2;go_roundw
    case rel=>exact ⟨i+1,by omega,by go_num,HS3,HB3⟩
    case measure=>simp [intOf];omega
   have hd:decide ((i:Int)<(B.length:Int))=false:=decide_eq_false (by omega);obtain rfl:i=B.length:=by omega
   rw [List.take_length] at HL hln ⊢;clear hi hil;rw [HLB.out] at HL ⊢;rw [List.length_map];obtain ⟨_,_,hve,-,-,hcell⟩:=HL.out.shape
   cases hve
   have HLC:=lH hcell;have HBW:=HBR;clear hcell HL HBR HLB hln hl1;generalize wr=W1 at *;have HO0:Hid (OwnT (W1.alloc (.cells #[] 39)) [] W1.heap.size 39 5 editT (.slice (some ⟨W1.heap.size,0,none⟩) 0 0) (addM (ps.take 0))):=⟨[],World.ownsRow_made W1 #[] 0 (Nat.le_refl _) (Nat.zero_le _) rfl,ReadsL.nil _ _⟩;have HB0:=lH (zAb W1 (.cells #[] 39));go_wp2
   go_loopw [12,11] (fun iv ov wr=>∃i:Nat,i≤ps.length∧iv=.int .i64 i∧Hid (OwnT wr [] W1.heap.size 39 5 editT ov (addM (ps.take i)))∧Hid (Bw W1 wr)) (fun iv _ _=>ps.length - (intOf iv).toNat)
   case atStart=>exact ⟨0,Nat.zero_le _,rfl,HO0,HB0⟩
   case round=>
    clear HO0 HB0;obtain ⟨i,hil,rfl,HO,HB⟩:=hrel;obtain ⟨z1,z2,z3,z4,z5⟩:=zGq (qs:=ps.take i) (fun p hp=>HSM.out.1 p (List.mem_of_mem_take hp)) (by rw [List.length_take];omega);obtain ⟨oa,oc,hov,-,-⟩:=HO.out.val;subst hov
    by_cases hi:i<ps.length
    ·skip
     have hd:decide ((i:Int)<(ps.length:Int))=true:=decide_eq_true (by omega);have hir:(i:Int)<(ps.length:Int):=by omega
     obtain ⟨p,hpi⟩:∃p,ps[i]?=some p:=⟨_,List.getElem?_eq_getElem hi⟩;have hpm:=List.mem_of_getElem? hpi;obtain ⟨e1,e2⟩:=HPP.out p hpm;obtain ⟨s1,s2,s3,s4⟩:=HSM.out.1 p hpm;have HT:=lH (HSM.out.2 p hpm);obtain ⟨lb,lo,hlae,hlb,hlc⟩:=HLC.out i (by rw [List.length_map];exact hi);subst hlae
     have hck':W1.cell? ⟨lb,lo+i,none⟩=some (.string p.label):=by
      have:=hlc i (by rw [List.length_map];exact hi);rwa [show (ps.map Pair.label).getD i ByteArray.empty=p.label by rw [List.getD_eq_getElem?_getD,List.getElem?_map,hpi];rfl] at this
     have hck:=(HB.out.cell (p:=⟨lb,_,none⟩) hlb).trans hck';have hbr:lb<wr.heap.size:=Nat.lt_of_lt_of_le hlb HB.out.size;obtain ⟨out,hout⟩:∃out,addM (ps.take i)=out:=⟨_,rfl⟩;have hol:out.length≤400000:=by rw [←hout];omega
     have HN:Hid (addM (ps.take (i+1))=out++(if p.a.isSome then [] else [⟨1,p.label,noText,[],[]⟩])):=by show _=_;rw [zQh hpi,hout]
     rw [hout] at HO ⊢;clear hout hlc hck' z1 z2 z3 z4 z5 hpi hpm;have HPL:=lH (zLu A aa ca p.label wr (HRA.out.below (zA HBW.out HB.out)) HAA.out (by omega));rw [←e1] at HPL;go_wp2_with (fail)
     refine HPL.out.mono ?_;rintro r w3 ⟨rfl,hb3⟩;have HB3:=lH (zA HB.out hb3);have hck3:=(hb3.cell (p:=⟨lb,_,none⟩) hbr).trans hck;have hbr3:lb<w3.heap.size:=Nat.lt_of_lt_of_le hbr hb3.size;have HO3:=lH (HO.out.below hb3);clear hb3 HPL HO hck hbr e1 e2;generalize hps:p.a=pa at *;clear hps
     cases pa with
     | some m=>
      simp only [Option.isSome_some,if_true,List.append_nil] at HN
      simp only [Option.isSome_some]
      have HO5:Hid (OwnT w3 [] W1.heap.size 39 5 editT (.slice oa out.length oc) (addM (ps.take (i+1)))):=by show OwnT _ _ _ _ _ _ _ _;rw [HN.out];exact HO3.out
      have HLL:Hid ((addM (ps.take (i+1))).length=out.length):=by show _=_;rw [HN.out]
      clear HO3 HN hck3 hbr3;go_wp2;go_roundw
      case rel=>exact ⟨i+1,by omega,by go_num,HO5,HB3⟩
      case measure=>simp [intOf];omega
     | none=>
      simp only [Option.isSome_none,Bool.false_eq_true,if_false] at HN
      simp only [Option.isSome_none]
      obtain ⟨ys,hown,hys⟩:=HO3.out;have hq:=zAb w3 (.cells #[.int .i64 1,.string p.label,.string ⟨#[]⟩,.slice none 0 0,.slice none 0 0] 39);have hR:=zAg (zAw w3 w3.heap.size (Nat.le_refl _) 39 #[.int .i64 1,.string p.label,.string ⟨#[]⟩,.slice none 0 0,.slice none 0 0] 5 1 rfl (by omega));obtain ⟨W2,hW2⟩:∃W2,W2=w3.alloc (.cells #[.int .i64 1,.string p.label,.string ⟨#[]⟩,.slice none 0 0,.slice none 0 0] 39):=⟨_,rfl⟩;rw [←hW2] at hq hR;have HW2:=lH hW2;clear hW2;have HR:=lH hR;have HOW:=lH (zAe hown hq)
      have HYS:=lH (hys.below hq);have HBN:=lH (zA HB3.out hq);have hsw:=HBN.out.size;clear hown hys hq hR;go_wp2_with (at_builtin;(try rw [←HW2.out]);refine zAa rfl _ _ 23 rfl W1.heap.size 39 i0 _ 5 88 Tryz.underlying23 hi0 hz0 hz1 hz2 hzs (by decide) _ _ _ rfl HOW.out _ _ _ rfl HR.out (by intro u hu;simp only [List.mem_cons,List.not_mem_nil,or_false] at hu;rcases hu with rfl|rfl|rfl|rfl|rfl<;>rfl) (by unfold maxLen;omega) (by omega) (by omega) ?_)
      intro v5 w5 hown5 hg5 hbk5;have HB5:=lH (HBN.out.grown hg5 (by omega) (fun x hx=>(HOW.out.lt x hx).1))
      have HO5:Hid (OwnT w5 [] W1.heap.size 39 5 editT v5 (addM (ps.take (i+1)))):=by
       show OwnT _ _ _ _ _ _ _ _
       rw [HN.out];exact OwnT.grown HOW.out HYS.out (yCk W2 _ 1 p.label) hown5 hg5 hbk5
      clear hown5 hg5 hbk5 HW2 HOW HYS HR HO3 hck3 hbr3 HN;go_wp2;go_roundw
      case rel=>exact ⟨i+1,by omega,by go_num,HO5,HB5⟩
      case measure=>simp [intOf];omega
    have hd:decide ((i:Int)<(ps.length:Int))=false:=decide_eq_false (by omega);obtain rfl:i=ps.length:=by omega
    rw [List.take_length] at HO z1 z2 z3 z4 z5 ⊢;clear hi hil;obtain ⟨P4,hP4⟩:∃P,P=addM ps:=⟨_,rfl⟩;have hp4n:P4.length≤200:=by rw [hP4];omega
    have HP4:=lH hP4;rw [←hP4] at HO ⊢;have HO0:Hid (OwnT wr [] W1.heap.size 39 5 editT (.slice oa P4.length oc) (P4++addU (ps.take 0))):=by show OwnT _ _ _ _ _ _ _ _;rw [show addU (ps.take 0)=[] from rfl,List.append_nil];exact HO.out
    have HB0:=HB;clear hP4 HO HB z1 z2 z3 z4 z5;go_wp2;generalize wr=wo4 at *
    go_loopw [15,11] (fun iv ov wr=>∃i:Nat,i≤ps.length∧iv=.int .i64 i∧Hid (OwnT wr [] W1.heap.size 39 5 editT ov (P4++addU (ps.take i)))∧Hid (Bw W1 wr)) (fun iv _ _=>ps.length - (intOf iv).toNat)
    case atStart=>exact ⟨0,Nat.zero_le _,rfl,HO0,HB0⟩
    case round=>
     clear HO0 HB0;obtain ⟨i,hil,rfl,HO,HB⟩:=hrel;obtain ⟨z1,z2,z3,z4,z5⟩:=zGq (qs:=ps.take i) (fun p hp=>HSM.out.1 p (List.mem_of_mem_take hp)) (by rw [List.length_take];omega);obtain ⟨oa,oc,hov,-,-⟩:=HO.out.val;subst hov
     by_cases hi:i<ps.length
     ·skip
      have hd:decide ((i:Int)<(ps.length:Int))=true:=decide_eq_true (by omega);have hir:(i:Int)<(ps.length:Int):=by omega
      obtain ⟨p,hpi⟩:∃p,ps[i]?=some p:=⟨_,List.getElem?_eq_getElem hi⟩;have hpm:=List.mem_of_getElem? hpi;obtain ⟨e1,e2⟩:=HPP.out p hpm;obtain ⟨s1,s2,s3,s4⟩:=HSM.out.1 p hpm;have HT:=lH (HSM.out.2 p hpm);obtain ⟨lb,lo,hlae,hlb,hlc⟩:=HLC.out i (by rw [List.length_map];exact hi);subst hlae
      have hck':W1.cell? ⟨lb,lo+i,none⟩=some (.string p.label):=by
       have:=hlc i (by rw [List.length_map];exact hi);rwa [show (ps.map Pair.label).getD i ByteArray.empty=p.label by rw [List.getD_eq_getElem?_getD,List.getElem?_map,hpi];rfl] at this
      have hck:=(HB.out.cell (p:=⟨lb,_,none⟩) hlb).trans hck';have hbr:lb<wr.heap.size:=Nat.lt_of_lt_of_le hlb HB.out.size;obtain ⟨out,hout⟩:∃out,P4++addU (ps.take i)=out:=⟨_,rfl⟩;have hol:out.length≤400000:=by rw [←hout];rw [List.length_append];omega
      have HN:Hid (P4++addU (ps.take (i+1))=out++useE 3 p.label (usesO p.b) (usesO p.a)):=by show _=_;rw [zQj hpi,←List.append_assoc,hout]
      rw [hout] at HO ⊢;clear hout hlc hck' z1 z2 z3 z4 z5 hpi hpm;obtain ⟨OB,hOB⟩:∃OB,(Value.ownBlock (.slice oa out.length oc)).toList=OB:=⟨_,rfl⟩
      have hob:∀k∈OB,W1.heap.size≤k∧k<wr.heap.size:=fun k hk=>by
       rw [←hOB] at hk;exact ⟨HO.out.ge (by simpa using hk),HO.out.lt (by simpa using hk)⟩
      have HRAX:Hid (Reads w OB (modsT A) (.slice aa A.length ca)):=by
       have:=zBk (Y:=OB) HRA.out (fun k hk=>Nat.le_trans HBW.out.size (hob k hk).1);rwa [List.append_nil] at this
      have HRBX:Hid (Reads w OB (modsT B) (.slice ab B.length cb)):=by
       have:=zBk (Y:=OB) HRB.out (fun k hk=>Nat.le_trans HBW.out.size (hob k hk).1);rwa [List.append_nil] at this
      have HOBL:Hid (∀k∈OB,k<wr.heap.size):=fun k hk=>(hob k hk).2;obtain ⟨ys,hown,hys⟩:=HO.out;rw [hOB,List.append_nil] at hys;have HOW:=lH hown;have HYS:=lH hys;have HOBE:=lH hOB;have hdr:Bw wr wr.drew:=(Mod.refl [] wr).drew.below;have HDR:=lH hdr;have SW:Hid (∀W:World,Bw wr W→(W.cell? ⟨lb,lo+i,none⟩=some (.string p.label)∧lb<W.heap.size)):=fun W hW=>⟨(hW.cell (p:=⟨lb,_,none⟩) hbr).trans hck,Nat.lt_of_lt_of_le hbr hW.size⟩;have HE1:=lH e1;have HE2:=lH e2
      have HK:=lH (And.intro (And.intro s1 s2) (And.intro s3 s4));clear hown hys hob hOB HO hdr hck hbr e1 e2;go_upto_region 26 with (fail)
      refine wp_region_noPanic (zAl (fun W:World=>W.cell? ⟨lb,lo+i,none⟩=some (.string p.label)∧lb<W.heap.size) 14 [(true,0),(true,1),(true,2),(true,3),(true,4),(true,5),(true,7),(true,8),(true,9),(true,10),(true,11),(false,6),(false,12),(false,13)] zAp (by kernel_rfl) (fun _ _ _ _ _ h=>h) (SW.out _ HDR.out) ?_)
      iterate 11 (refine zAj (v:=?_) rfl (by rfl) ?_ ?_;rotate_left;(focus (intro wq hSw;(try dsimp only at hSw);go_simp;(try rw [if_neg (by first|omega|(simp;omega))]);(try with_reducible rfl)));(try simp only [gA,gB,gC,Act.put,gD,gE,gF]))
      generalize wr.drew=wd at *
      (refine zAk rfl (by rfl) (fun K hK=>?_);go_simp)
      refine (zGv OB B ab cb p.label wd (HRBX.out.below (zA HBW.out (zA HB.out HDR.out))) HAB.out (by omega)).mono ?_;rintro r W2 ⟨u2,d2,rfl,hu2,hd2,hb2⟩;rw [←HE2.out] at hu2 hd2;obtain ⟨ua2,uc2,rfl,-,-⟩:=zDo hu2;obtain ⟨da2,dc2,rfl,-,-⟩:=zBj hd2
      (try go_simp)
      have HU2:=lH hu2;have HD2:=lH hd2;have HB2:=lH (zA HDR.out hb2);refine hK.out _ _ (SW.out _ HB2.out) ?_;clear hK K hu2 hd2 hb2
      (try simp only [gA,gB,gC,Act.put,gD,gE,gF])
      (refine zAk rfl (by rfl) (fun K hK=>?_);go_simp)
      refine (zGv OB A aa ca p.label W2 (HRAX.out.below (zA HBW.out (zA HB.out HB2.out))) HAA.out (by omega)).mono ?_;rintro r W3 ⟨u3,d3,rfl,hu3,hd3,hb3⟩;rw [←HE1.out] at hu3 hd3;obtain ⟨ua3,uc3,rfl,-,-⟩:=zDo hu3;obtain ⟨da3,dc3,rfl,-,-⟩:=zBj hd3
      (try go_simp)
      have HU3:=lH hu3;have HD3:=lH hd3;have HU2':=lH (HU2.out.below hb3);have HD2':=lH (HD2.out.below hb3);have HB3:=lH (zA HB2.out hb3);refine hK.out _ _ (SW.out _ HB3.out) ?_;clear hK K hu3 hd3 hb3 HU2 HD2
      (try simp only [gA,gB,gC,Act.put,gD,gE,gF])
      (refine zAk rfl (by rfl) (fun K hK=>?_);go_simp)
      refine (zTv 3 p.label p.label (usesO p.b) (usesO p.a) _ _ _ _ _ _ _ _ _ _ W3 (zOt HU2'.out) (zOt HU3.out) (by have:=HK.out;omega) (by have:=HK.out;omega)).mono ?_;rintro r W4 ⟨v4,rfl,ho4,hb4⟩;obtain ⟨xs4,hx4,hr4⟩:=ho4;have hr4':ReadsL W4 (OB++[]) ((useE 3 p.label (usesO p.b) (usesO p.a)).flatMap editT) xs4:=(zOs (zNl _ _ _ _) hr4).below hb4;have hdl:(useE 3 p.label (usesO p.b) (usesO p.a)).length≤600:=by have:=zDh 3 p.label (usesO p.b) (usesO p.a);have:=HK.out;omega
      (try go_simp)
      have HR4:=lH (zAg hx4);have HX4:=lH hr4';have hb34:=zA HB3.out hb4;have HB4:=lH (zA HB.out hb34);have HOW4:=lH (zAe HOW.out hb34);have HYS4:=lH (HYS.out.below hb34);have hsw:=HB4.out.size;refine hK.out _ _ (SW.out _ hb34) ?_;clear hK K hx4 hr4 hr4' hb4 hb34 HOW HYS SW HU2' HD2' HU3 HD3 HB2 HB3 HDR
      (try simp only [gA,gB,gC,Act.put,gD,gE,gF])
      refine zAt ?_;generalize useE 3 p.label (usesO p.b) (usesO p.a)=dl at *;simp only [List.drop_succ_cons,List.drop_zero]
      refine zAa rfl _ _ 23 rfl W1.heap.size 39 i0 _ 5 88 Tryz.underlying23 hi0 hz0 hz1 hz2 hzs (by decide) _ _ _ rfl HOW4.out _ _ _ rfl HR4.out (zGw HX4.out) (by unfold maxLen;omega) (by omega) (by omega) ?_;intro v5 w5 hown5 hg5 hbk5;have HB5:=lH (HB4.out.grown hg5 (by omega) (fun x hx=>(HOW4.out.lt x hx).1))
      have HO5:Hid (OwnT w5 [] W1.heap.size 39 5 editT v5 (P4++addU (ps.take (i+1)))):=by
       show OwnT _ _ _ _ _ _ _ _
       rw [HN.out];exact OwnT.growns (by show ReadsL W4 ((Value.ownBlock (.slice oa out.length oc)).toList++[]) _ _;rw [HOBE.out,List.append_nil];exact HYS4.out) (by show ReadsL W4 ((Value.ownBlock (.slice oa out.length oc)).toList++[]) _ _;rw [HOBE.out];exact HX4.out) hown5 hg5 hbk5
      clear hown5 hg5 hbk5 HOW4 HYS4 HR4 HX4 HN;go_wp2;refine NoPanic.normal ?_;go_wp2;go_roundw
      case rel=>exact ⟨i+1,by omega,by go_num,HO5,HB5⟩
      case measure=>simp [intOf];omega
     have hd:decide ((i:Int)<(ps.length:Int))=false:=decide_eq_false (by omega);obtain rfl:i=ps.length:=by omega
     rw [List.take_length] at HO z1 z2 z3 z4 z5 ⊢;clear hi hil;obtain ⟨P5,hP5⟩:∃P,P=P4++addU ps:=⟨_,rfl⟩;have hp5n:P5.length≤20200:=by rw [hP5];rw [List.length_append];omega
     have HP5:=lH hP5;rw [←hP5] at HO ⊢;have HO0:Hid (OwnT wr [] W1.heap.size 39 5 editT (.slice oa P5.length oc) (P5++chgD (ps.take 0))):=by show OwnT _ _ _ _ _ _ _ _;rw [show chgD (ps.take 0)=[] from rfl,List.append_nil];exact HO.out
     have HB0:=HB;clear hP5 HO HB z1 z2 z3 z4 z5;go_wp2;generalize wr=wo5 at *
     go_loopw [16,11] (fun iv ov wr=>∃i:Nat,i≤ps.length∧iv=.int .i64 i∧Hid (OwnT wr [] W1.heap.size 39 5 editT ov (P5++chgD (ps.take i)))∧Hid (Bw W1 wr)) (fun iv _ _=>ps.length - (intOf iv).toNat)
     case atStart=>exact ⟨0,Nat.zero_le _,rfl,HO0,HB0⟩
     case round=>
      clear HO0 HB0;obtain ⟨i,hil,rfl,HO,HB⟩:=hrel;obtain ⟨z1,z2,z3,z4,z5⟩:=zGq (qs:=ps.take i) (fun p hp=>HSM.out.1 p (List.mem_of_mem_take hp)) (by rw [List.length_take];omega);obtain ⟨oa,oc,hov,-,-⟩:=HO.out.val;subst hov
      by_cases hi:i<ps.length
      ·skip
       have hd:decide ((i:Int)<(ps.length:Int))=true:=decide_eq_true (by omega);have hir:(i:Int)<(ps.length:Int):=by omega
       obtain ⟨p,hpi⟩:∃p,ps[i]?=some p:=⟨_,List.getElem?_eq_getElem hi⟩;have hpm:=List.mem_of_getElem? hpi;obtain ⟨e1,e2⟩:=HPP.out p hpm;obtain ⟨s1,s2,s3,s4⟩:=HSM.out.1 p hpm;have HT:=lH (HSM.out.2 p hpm);obtain ⟨lb,lo,hlae,hlb,hlc⟩:=HLC.out i (by rw [List.length_map];exact hi);subst hlae
       have hck':W1.cell? ⟨lb,lo+i,none⟩=some (.string p.label):=by
        have:=hlc i (by rw [List.length_map];exact hi);rwa [show (ps.map Pair.label).getD i ByteArray.empty=p.label by rw [List.getD_eq_getElem?_getD,List.getElem?_map,hpi];rfl] at this
       have hck:=(HB.out.cell (p:=⟨lb,_,none⟩) hlb).trans hck';have hbr:lb<wr.heap.size:=Nat.lt_of_lt_of_le hlb HB.out.size;obtain ⟨out,hout⟩:∃out,P5++chgD (ps.take i)=out:=⟨_,rfl⟩;have hol:out.length≤400000:=by rw [←hout];rw [List.length_append];omega
       have HN:Hid (P5++chgD (ps.take (i+1))=out++declE p.label (declsO p.a) (declsO p.b)):=by show _=_;rw [zQk hpi,←List.append_assoc,hout]
       rw [hout] at HO ⊢;clear hout hlc hck' z1 z2 z3 z4 z5 hpi hpm;obtain ⟨OB,hOB⟩:∃OB,(Value.ownBlock (.slice oa out.length oc)).toList=OB:=⟨_,rfl⟩
       have hob:∀k∈OB,W1.heap.size≤k∧k<wr.heap.size:=fun k hk=>by
        rw [←hOB] at hk;exact ⟨HO.out.ge (by simpa using hk),HO.out.lt (by simpa using hk)⟩
       have HRAX:Hid (Reads w OB (modsT A) (.slice aa A.length ca)):=by
        have:=zBk (Y:=OB) HRA.out (fun k hk=>Nat.le_trans HBW.out.size (hob k hk).1);rwa [List.append_nil] at this
       have HRBX:Hid (Reads w OB (modsT B) (.slice ab B.length cb)):=by
        have:=zBk (Y:=OB) HRB.out (fun k hk=>Nat.le_trans HBW.out.size (hob k hk).1);rwa [List.append_nil] at this
       have HOBL:Hid (∀k∈OB,k<wr.heap.size):=fun k hk=>(hob k hk).2;obtain ⟨ys,hown,hys⟩:=HO.out;rw [hOB,List.append_nil] at hys;have HOW:=lH hown;have HYS:=lH hys;have HOBE:=lH hOB;have hdr:Bw wr wr.drew:=(Mod.refl [] wr).drew.below;have HDR:=lH hdr;have SW:Hid (∀W:World,Bw wr W→(W.cell? ⟨lb,lo+i,none⟩=some (.string p.label)∧lb<W.heap.size)):=fun W hW=>⟨(hW.cell (p:=⟨lb,_,none⟩) hbr).trans hck,Nat.lt_of_lt_of_le hbr hW.size⟩;have HE1:=lH e1;have HE2:=lH e2
       have HK:=lH (And.intro (And.intro s1 s2) (And.intro s3 s4));clear hown hys hob hOB HO hdr hck hbr e1 e2;go_upto_region 30 with (fail)
       refine wp_region_noPanic (zAl (fun W:World=>W.cell? ⟨lb,lo+i,none⟩=some (.string p.label)∧lb<W.heap.size) 14 [(true,0),(true,1),(true,2),(true,3),(true,4),(true,5),(true,7),(true,8),(true,9),(true,10),(true,11),(false,6),(false,12),(false,13)] zAp (by kernel_rfl) (fun _ _ _ _ _ h=>h) (SW.out _ HDR.out) ?_)
       iterate 11 (refine zAj (v:=?_) rfl (by rfl) ?_ ?_;rotate_left;(focus (intro wq hSw;(try dsimp only at hSw);go_simp;(try rw [if_neg (by first|omega|(simp;omega))]);(try with_reducible rfl)));(try simp only [gA,gB,gC,Act.put,gD,gE,gF]))
       generalize wr.drew=wd at *
       (refine zAk rfl (by rfl) (fun K hK=>?_);go_simp)
       refine (zGv OB A aa ca p.label wd (HRAX.out.below (zA HBW.out (zA HB.out HDR.out))) HAA.out (by omega)).mono ?_;rintro r W2 ⟨u2,d2,rfl,hu2,hd2,hb2⟩;rw [←HE1.out] at hu2 hd2;obtain ⟨ua2,uc2,rfl,-,-⟩:=zDo hu2;obtain ⟨da2,dc2,rfl,-,-⟩:=zBj hd2
       (try go_simp)
       have HU2:=lH hu2;have HD2:=lH hd2;have HB2:=lH (zA HDR.out hb2);refine hK.out _ _ (SW.out _ HB2.out) ?_;clear hK K hu2 hd2 hb2
       (try simp only [gA,gB,gC,Act.put,gD,gE,gF])
       (refine zAk rfl (by rfl) (fun K hK=>?_);go_simp)
       refine (zGv OB B ab cb p.label W2 (HRBX.out.below (zA HBW.out (zA HB.out HB2.out))) HAB.out (by omega)).mono ?_;rintro r W3 ⟨u3,d3,rfl,hu3,hd3,hb3⟩;rw [←HE2.out] at hu3 hd3;obtain ⟨ua3,uc3,rfl,-,-⟩:=zDo hu3;obtain ⟨da3,dc3,rfl,-,-⟩:=zBj hd3
       (try go_simp)
       have HU3:=lH hu3;have HD3:=lH hd3;have HU2':=lH (HU2.out.below hb3);have HD2':=lH (HD2.out.below hb3);have HB3:=lH (zA HB2.out hb3);refine hK.out _ _ (SW.out _ HB3.out) ?_;clear hK K hu3 hd3 hb3 HU2 HD2
       (try simp only [gA,gB,gC,Act.put,gD,gE,gF])
       (refine zAk rfl (by rfl) (fun K hK=>?_);go_simp)
       refine (zQy p.label p.label (declsO p.a) (declsO p.b) _ _ _ _ _ _ _ _ _ _ OB W3 (fun x hx=>Nat.lt_of_lt_of_le (HOBL.out x hx) HB3.out.size) HD2'.out HD3.out (by have:=HK.out;omega) (by have:=HK.out;omega) HT.out.1 HT.out.2).mono ?_;rintro r W4 ⟨v4,rfl,ho4,hb4⟩;obtain ⟨xs4,hx4,hr4⟩:=ho4;have hr4':ReadsL W4 (OB++[]) ((declE p.label (declsO p.a) (declsO p.b)).flatMap editT) xs4:=hr4.fewer (fun k hk=>List.mem_append_right _ (by simpa using hk))
       have hdl:(declE p.label (declsO p.a) (declsO p.b)).length≤600:=by have:=zFw p.label _ (xs:=declsO p.a) (bs:=declsO p.b) rfl;have:=HK.out;omega
       (try go_simp)
       have HR4:=lH (zAg hx4);have HX4:=lH hr4';have hb34:=zA HB3.out hb4;have HB4:=lH (zA HB.out hb34);have HOW4:=lH (zAe HOW.out hb34);have HYS4:=lH (HYS.out.below hb34);have hsw:=HB4.out.size;refine hK.out _ _ (SW.out _ hb34) ?_;clear hK K hx4 hr4 hr4' hb4 hb34 HOW HYS SW HU2' HD2' HU3 HD3 HB2 HB3 HDR
       (try simp only [gA,gB,gC,Act.put,gD,gE,gF])
       refine zAt ?_;generalize declE p.label (declsO p.a) (declsO p.b)=dl at *;simp only [List.drop_succ_cons,List.drop_zero]
       refine zAa rfl _ _ 23 rfl W1.heap.size 39 i0 _ 5 88 Tryz.underlying23 hi0 hz0 hz1 hz2 hzs (by decide) _ _ _ rfl HOW4.out _ _ _ rfl HR4.out (zGw HX4.out) (by unfold maxLen;omega) (by omega) (by omega) ?_;intro v5 w5 hown5 hg5 hbk5;have HB5:=lH (HB4.out.grown hg5 (by omega) (fun x hx=>(HOW4.out.lt x hx).1))
       have HO5:Hid (OwnT w5 [] W1.heap.size 39 5 editT v5 (P5++chgD (ps.take (i+1)))):=by
        show OwnT _ _ _ _ _ _ _ _
        rw [HN.out];exact OwnT.growns (by show ReadsL W4 ((Value.ownBlock (.slice oa out.length oc)).toList++[]) _ _;rw [HOBE.out,List.append_nil];exact HYS4.out) (by show ReadsL W4 ((Value.ownBlock (.slice oa out.length oc)).toList++[]) _ _;rw [HOBE.out];exact HX4.out) hown5 hg5 hbk5
       clear hown5 hg5 hbk5 HOW4 HYS4 HR4 HX4 HN;go_wp2;refine NoPanic.normal ?_;go_wp2;go_roundw
       case rel=>exact ⟨i+1,by omega,by go_num,HO5,HB5⟩
       case measure=>simp [intOf];omega
      have hd:decide ((i:Int)<(ps.length:Int))=false:=decide_eq_false (by omega);obtain rfl:i=ps.length:=by omega
      rw [List.take_length] at HO z1 z2 z3 z4 z5 ⊢;clear hi hil;obtain ⟨P6,hP6⟩:∃P,P=P5++chgD ps:=⟨_,rfl⟩;have hp6n:P6.length≤140200:=by rw [hP6];rw [List.length_append];omega
      have HP6:=lH hP6;rw [←hP6] at HO ⊢;have HO0:Hid (OwnT wr [] W1.heap.size 39 5 editT (.slice oa P6.length oc) (P6++remU (ps.take 0))):=by show OwnT _ _ _ _ _ _ _ _;rw [show remU (ps.take 0)=[] from rfl,List.append_nil];exact HO.out
      have HB0:=HB;clear hP6 HO HB z1 z2 z3 z4 z5;go_wp2;generalize wr=wo6 at *
      go_loopw [17,11] (fun iv ov wr=>∃i:Nat,i≤ps.length∧iv=.int .i64 i∧Hid (OwnT wr [] W1.heap.size 39 5 editT ov (P6++remU (ps.take i)))∧Hid (Bw W1 wr)) (fun iv _ _=>ps.length - (intOf iv).toNat)
      case atStart=>exact ⟨0,Nat.zero_le _,rfl,HO0,HB0⟩
      case round=>
       clear HO0 HB0;obtain ⟨i,hil,rfl,HO,HB⟩:=hrel;obtain ⟨z1,z2,z3,z4,z5⟩:=zGq (qs:=ps.take i) (fun p hp=>HSM.out.1 p (List.mem_of_mem_take hp)) (by rw [List.length_take];omega);obtain ⟨oa,oc,hov,-,-⟩:=HO.out.val;subst hov
       by_cases hi:i<ps.length
       ·skip
        have hd:decide ((i:Int)<(ps.length:Int))=true:=decide_eq_true (by omega);have hir:(i:Int)<(ps.length:Int):=by omega
        obtain ⟨p,hpi⟩:∃p,ps[i]?=some p:=⟨_,List.getElem?_eq_getElem hi⟩;have hpm:=List.mem_of_getElem? hpi;obtain ⟨e1,e2⟩:=HPP.out p hpm;obtain ⟨s1,s2,s3,s4⟩:=HSM.out.1 p hpm;have HT:=lH (HSM.out.2 p hpm);obtain ⟨lb,lo,hlae,hlb,hlc⟩:=HLC.out i (by rw [List.length_map];exact hi);subst hlae
        have hck':W1.cell? ⟨lb,lo+i,none⟩=some (.string p.label):=by
         have:=hlc i (by rw [List.length_map];exact hi);rwa [show (ps.map Pair.label).getD i ByteArray.empty=p.label by rw [List.getD_eq_getElem?_getD,List.getElem?_map,hpi];rfl] at this
        have hck:=(HB.out.cell (p:=⟨lb,_,none⟩) hlb).trans hck';have hbr:lb<wr.heap.size:=Nat.lt_of_lt_of_le hlb HB.out.size;obtain ⟨out,hout⟩:∃out,P6++remU (ps.take i)=out:=⟨_,rfl⟩;have hol:out.length≤400000:=by rw [←hout];rw [List.length_append];omega
        have HN:Hid (P6++remU (ps.take (i+1))=out++useE 4 p.label (usesO p.a) (usesO p.b)):=by show _=_;rw [zQl hpi,←List.append_assoc,hout]
        rw [hout] at HO ⊢;clear hout hlc hck' z1 z2 z3 z4 z5 hpi hpm;obtain ⟨OB,hOB⟩:∃OB,(Value.ownBlock (.slice oa out.length oc)).toList=OB:=⟨_,rfl⟩
        have hob:∀k∈OB,W1.heap.size≤k∧k<wr.heap.size:=fun k hk=>by
         rw [←hOB] at hk;exact ⟨HO.out.ge (by simpa using hk),HO.out.lt (by simpa using hk)⟩
        have HRAX:Hid (Reads w OB (modsT A) (.slice aa A.length ca)):=by
         have:=zBk (Y:=OB) HRA.out (fun k hk=>Nat.le_trans HBW.out.size (hob k hk).1);rwa [List.append_nil] at this
        have HRBX:Hid (Reads w OB (modsT B) (.slice ab B.length cb)):=by
         have:=zBk (Y:=OB) HRB.out (fun k hk=>Nat.le_trans HBW.out.size (hob k hk).1);rwa [List.append_nil] at this
        have HOBL:Hid (∀k∈OB,k<wr.heap.size):=fun k hk=>(hob k hk).2;obtain ⟨ys,hown,hys⟩:=HO.out;rw [hOB,List.append_nil] at hys;have HOW:=lH hown;have HYS:=lH hys;have HOBE:=lH hOB;have hdr:Bw wr wr.drew:=(Mod.refl [] wr).drew.below;have HDR:=lH hdr;have SW:Hid (∀W:World,Bw wr W→(W.cell? ⟨lb,lo+i,none⟩=some (.string p.label)∧lb<W.heap.size)):=fun W hW=>⟨(hW.cell (p:=⟨lb,_,none⟩) hbr).trans hck,Nat.lt_of_lt_of_le hbr hW.size⟩;have HE1:=lH e1;have HE2:=lH e2
        have HK:=lH (And.intro (And.intro s1 s2) (And.intro s3 s4));clear hown hys hob hOB HO hdr hck hbr e1 e2;go_upto_region 34 with (fail)
        refine wp_region_noPanic (zAl (fun W:World=>W.cell? ⟨lb,lo+i,none⟩=some (.string p.label)∧lb<W.heap.size) 14 [(true,0),(true,1),(true,2),(true,3),(true,4),(true,5),(true,7),(true,8),(true,9),(true,10),(true,11),(false,6),(false,12),(false,13)] zAp (by kernel_rfl) (fun _ _ _ _ _ h=>h) (SW.out _ HDR.out) ?_)
        iterate 11 (refine zAj (v:=?_) rfl (by rfl) ?_ ?_;rotate_left;(focus (intro wq hSw;(try dsimp only at hSw);go_simp;(try rw [if_neg (by first|omega|(simp;omega))]);(try with_reducible rfl)));(try simp only [gA,gB,gC,Act.put,gD,gE,gF]))
        generalize wr.drew=wd at *
        (refine zAk rfl (by rfl) (fun K hK=>?_);go_simp)
        refine (zGv OB A aa ca p.label wd (HRAX.out.below (zA HBW.out (zA HB.out HDR.out))) HAA.out (by omega)).mono ?_;rintro r W2 ⟨u2,d2,rfl,hu2,hd2,hb2⟩;rw [←HE1.out] at hu2 hd2;obtain ⟨ua2,uc2,rfl,-,-⟩:=zDo hu2;obtain ⟨da2,dc2,rfl,-,-⟩:=zBj hd2
        (try go_simp)
        have HU2:=lH hu2;have HD2:=lH hd2;have HB2:=lH (zA HDR.out hb2);refine hK.out _ _ (SW.out _ HB2.out) ?_;clear hK K hu2 hd2 hb2
        (try simp only [gA,gB,gC,Act.put,gD,gE,gF])
        (refine zAk rfl (by rfl) (fun K hK=>?_);go_simp)
        refine (zGv OB B ab cb p.label W2 (HRBX.out.below (zA HBW.out (zA HB.out HB2.out))) HAB.out (by omega)).mono ?_;rintro r W3 ⟨u3,d3,rfl,hu3,hd3,hb3⟩;rw [←HE2.out] at hu3 hd3;obtain ⟨ua3,uc3,rfl,-,-⟩:=zDo hu3;obtain ⟨da3,dc3,rfl,-,-⟩:=zBj hd3
        (try go_simp)
        have HU3:=lH hu3;have HD3:=lH hd3;have HU2':=lH (HU2.out.below hb3);have HD2':=lH (HD2.out.below hb3);have HB3:=lH (zA HB2.out hb3);refine hK.out _ _ (SW.out _ HB3.out) ?_;clear hK K hu3 hd3 hb3 HU2 HD2
        (try simp only [gA,gB,gC,Act.put,gD,gE,gF])
        (refine zAk rfl (by rfl) (fun K hK=>?_);go_simp)
        refine (zTv 4 p.label p.label (usesO p.a) (usesO p.b) _ _ _ _ _ _ _ _ _ _ W3 (zOt HU2'.out) (zOt HU3.out) (by have:=HK.out;omega) (by have:=HK.out;omega)).mono ?_;rintro r W4 ⟨v4,rfl,ho4,hb4⟩;obtain ⟨xs4,hx4,hr4⟩:=ho4;have hr4':ReadsL W4 (OB++[]) ((useE 4 p.label (usesO p.a) (usesO p.b)).flatMap editT) xs4:=(zOs (zNl _ _ _ _) hr4).below hb4;have hdl:(useE 4 p.label (usesO p.a) (usesO p.b)).length≤600:=by have:=zDh 4 p.label (usesO p.a) (usesO p.b);have:=HK.out;omega
        (try go_simp)
        have HR4:=lH (zAg hx4);have HX4:=lH hr4';have hb34:=zA HB3.out hb4;have HB4:=lH (zA HB.out hb34);have HOW4:=lH (zAe HOW.out hb34);have HYS4:=lH (HYS.out.below hb34);have hsw:=HB4.out.size;refine hK.out _ _ (SW.out _ hb34) ?_;clear hK K hx4 hr4 hr4' hb4 hb34 HOW HYS SW HU2' HD2' HU3 HD3 HB2 HB3 HDR
        (try simp only [gA,gB,gC,Act.put,gD,gE,gF])
        refine zAt ?_;generalize useE 4 p.label (usesO p.a) (usesO p.b)=dl at *;simp only [List.drop_succ_cons,List.drop_zero]
        refine zAa rfl _ _ 23 rfl W1.heap.size 39 i0 _ 5 88 Tryz.underlying23 hi0 hz0 hz1 hz2 hzs (by decide) _ _ _ rfl HOW4.out _ _ _ rfl HR4.out (zGw HX4.out) (by unfold maxLen;omega) (by omega) (by omega) ?_;intro v5 w5 hown5 hg5 hbk5;have HB5:=lH (HB4.out.grown hg5 (by omega) (fun x hx=>(HOW4.out.lt x hx).1))
        have HO5:Hid (OwnT w5 [] W1.heap.size 39 5 editT v5 (P6++remU (ps.take (i+1)))):=by
         show OwnT _ _ _ _ _ _ _ _
         rw [HN.out];exact OwnT.growns (by show ReadsL W4 ((Value.ownBlock (.slice oa out.length oc)).toList++[]) _ _;rw [HOBE.out,List.append_nil];exact HYS4.out) (by show ReadsL W4 ((Value.ownBlock (.slice oa out.length oc)).toList++[]) _ _;rw [HOBE.out];exact HX4.out) hown5 hg5 hbk5
        clear hown5 hg5 hbk5 HOW4 HYS4 HR4 HX4 HN;go_wp2;refine NoPanic.normal ?_;go_wp2;go_roundw
        case rel=>exact ⟨i+1,by omega,by go_num,HO5,HB5⟩
        case measure=>simp [intOf];omega
       have hd:decide ((i:Int)<(ps.length:Int))=false:=decide_eq_false (by omega);obtain rfl:i=ps.length:=by omega
       rw [List.take_length] at HO z1 z2 z3 z4 z5 ⊢;clear hi hil;obtain ⟨P7,hP7⟩:∃P,P=P6++remU ps:=⟨_,rfl⟩;have hp7n:P7.length≤160200:=by rw [hP7];rw [List.length_append];omega
       have HP7:=lH hP7;rw [←hP7] at HO ⊢;have HO0:Hid (OwnT wr [] W1.heap.size 39 5 editT (.slice oa P7.length oc) (P7++remM (ps.take 0))):=by show OwnT _ _ _ _ _ _ _ _;rw [show remM (ps.take 0)=[] from rfl,List.append_nil];exact HO.out
       have HB0:=HB;clear hP7 HO HB z1 z2 z3 z4 z5;go_wp2;generalize wr=wo7 at *
       go_loopw [18,11] (fun iv ov wr=>∃i:Nat,i≤ps.length∧iv=.int .i64 i∧Hid (OwnT wr [] W1.heap.size 39 5 editT ov (P7++remM (ps.take i)))∧Hid (Bw W1 wr)) (fun iv _ _=>ps.length - (intOf iv).toNat)
       case atStart=>exact ⟨0,Nat.zero_le _,rfl,HO0,HB0⟩
       case round=>
        clear HO0 HB0;obtain ⟨i,hil,rfl,HO,HB⟩:=hrel;obtain ⟨z1,z2,z3,z4,z5⟩:=zGq (qs:=ps.take i) (fun p hp=>HSM.out.1 p (List.mem_of_mem_take hp)) (by rw [List.length_take];omega);obtain ⟨oa,oc,hov,-,-⟩:=HO.out.val;subst hov
        by_cases hi:i<ps.length
        ·skip
         have hd:decide ((i:Int)<(ps.length:Int))=true:=decide_eq_true (by omega);have hir:(i:Int)<(ps.length:Int):=by omega
         obtain ⟨p,hpi⟩:∃p,ps[i]?=some p:=⟨_,List.getElem?_eq_getElem hi⟩;have hpm:=List.mem_of_getElem? hpi;obtain ⟨e1,e2⟩:=HPP.out p hpm;obtain ⟨s1,s2,s3,s4⟩:=HSM.out.1 p hpm;have HT:=lH (HSM.out.2 p hpm);obtain ⟨lb,lo,hlae,hlb,hlc⟩:=HLC.out i (by rw [List.length_map];exact hi);subst hlae
         have hck':W1.cell? ⟨lb,lo+i,none⟩=some (.string p.label):=by
          have:=hlc i (by rw [List.length_map];exact hi);rwa [show (ps.map Pair.label).getD i ByteArray.empty=p.label by rw [List.getD_eq_getElem?_getD,List.getElem?_map,hpi];rfl] at this
         have hck:=(HB.out.cell (p:=⟨lb,_,none⟩) hlb).trans hck';have hbr:lb<wr.heap.size:=Nat.lt_of_lt_of_le hlb HB.out.size;obtain ⟨out,hout⟩:∃out,P7++remM (ps.take i)=out:=⟨_,rfl⟩;have hol:out.length≤400000:=by rw [←hout];rw [List.length_append];omega
         have HN:Hid (P7++remM (ps.take (i+1))=out++(if p.b.isSome then [] else [⟨2,p.label,noText,[],[]⟩])):=by show _=_;rw [zQi hpi,←List.append_assoc,hout]
         rw [hout] at HO ⊢;clear hout hlc hck' z1 z2 z3 z4 z5 hpi hpm;have HPL:=lH (zLu B ab cb p.label wr (HRB.out.below (zA HBW.out HB.out)) HAB.out (by omega));rw [←e2] at HPL;go_wp2_with (fail)
         refine HPL.out.mono ?_;rintro r w3 ⟨rfl,hb3⟩;have HB3:=lH (zA HB.out hb3);have hck3:=(hb3.cell (p:=⟨lb,_,none⟩) hbr).trans hck;have hbr3:lb<w3.heap.size:=Nat.lt_of_lt_of_le hbr hb3.size;have HO3:=lH (HO.out.below hb3);clear hb3 HPL HO hck hbr e1 e2;generalize hps:p.b=pa at *;clear hps
         cases pa with
         | some m=>
          simp only [Option.isSome_some,if_true,List.append_nil] at HN
          simp only [Option.isSome_some]
          have HO5:Hid (OwnT w3 [] W1.heap.size 39 5 editT (.slice oa out.length oc) (P7++remM (ps.take (i+1)))):=by show OwnT _ _ _ _ _ _ _ _;rw [HN.out];exact HO3.out
          have HLL:Hid ((P7++remM (ps.take (i+1))).length=out.length):=by show _=_;rw [HN.out]
          clear HO3 HN hck3 hbr3;go_wp2;go_roundw
          case rel=>exact ⟨i+1,by omega,by go_num,HO5,HB3⟩
          case measure=>simp [intOf];omega
         | none=>
          simp only [Option.isSome_none,Bool.false_eq_true,if_false] at HN
          simp only [Option.isSome_none]
          obtain ⟨ys,hown,hys⟩:=HO3.out;have hq:=zAb w3 (.cells #[.int .i64 2,.string p.label,.string ⟨#[]⟩,.slice none 0 0,.slice none 0 0] 39);have hR:=zAg (zAw w3 w3.heap.size (Nat.le_refl _) 39 #[.int .i64 2,.string p.label,.string ⟨#[]⟩,.slice none 0 0,.slice none 0 0] 5 1 rfl (by omega));obtain ⟨W2,hW2⟩:∃W2,W2=w3.alloc (.cells #[.int .i64 2,.string p.label,.string ⟨#[]⟩,.slice none 0 0,.slice none 0 0] 39):=⟨_,rfl⟩;rw [←hW2] at hq hR;have HW2:=lH hW2;clear hW2;have HR:=lH hR
          have HOW:=lH (zAe hown hq);have HYS:=lH (hys.below hq);have HBN:=lH (zA HB3.out hq);have hsw:=HBN.out.size;clear hown hys hq hR;go_wp2_with (at_builtin;(try rw [←HW2.out]);refine zAa rfl _ _ 23 rfl W1.heap.size 39 i0 _ 5 88 Tryz.underlying23 hi0 hz0 hz1 hz2 hzs (by decide) _ _ _ rfl HOW.out _ _ _ rfl HR.out (by intro u hu;simp only [List.mem_cons,List.not_mem_nil,or_false] at hu;rcases hu with rfl|rfl|rfl|rfl|rfl<;>rfl) (by unfold maxLen;omega) (by omega) (by omega) ?_)
          intro v5 w5 hown5 hg5 hbk5;have HB5:=lH (HBN.out.grown hg5 (by omega) (fun x hx=>(HOW.out.lt x hx).1))
          have HO5:Hid (OwnT w5 [] W1.heap.size 39 5 editT v5 (P7++remM (ps.take (i+1)))):=by
           show OwnT _ _ _ _ _ _ _ _
           rw [HN.out];exact OwnT.grown HOW.out HYS.out (yCk W2 _ 2 p.label) hown5 hg5 hbk5
          clear hown5 hg5 hbk5 HW2 HOW HYS HR HO3 hck3 hbr3 HN;go_wp2;go_roundw
          case rel=>exact ⟨i+1,by omega,by go_num,HO5,HB5⟩
          case measure=>simp [intOf];omega
        have hd:decide ((i:Int)<(ps.length:Int))=false:=decide_eq_false (by omega);obtain rfl:i=ps.length:=by omega
        rw [List.take_length] at HO z1 z2 z3 z4 z5 ⊢;clear hi hil;have hf:P7++remM ps=diffR A B:=by rw [HXR.out];unfold diffP;rw [HP7.out,HP6.out,HP5.out,HP4.out]
        have HF:Hid (Reads wr [] (editsT (diffR A B)) (.slice oa (P7++remM ps).length oc)):=by show Reads _ _ _ _;rw [←hf];exact HO.out.reads0
        have HBF:=lH (zA HBW.out HB.out);clear hf HO HB z1 z2 z3 z4 z5;go_wp2;go_ret2;exact zQr HXE.out HF.out HBF.out
end Go.Proofs.YtfkjfdbjhlmjcaaGreatDoor
