/- modmerge.mergeDecl. -/
import Derived.Test.YtdpnfkjafhbndaaGreatDoorRXO
import Derived.Test.YtdpnfkjafhbndaaGreatDoorRXP
import Derived.Test.YtdpnfkjafhbndaaGreatDoorRR7
import Derived.Test.YtdpnfkjafhbndaaGreatDoorRG8
namespace Go.Proofs.YtdpnfkjafhbndaaGreatDoor
open Go.RowKit Go.Shelf
attribute [local go_sem] Oper.semAt_some
def mOut (ob ol or:Option ODecl):ODecl:=if mergeDErr ob ol or = 0 then (mergeD ob ol or).getD noDecl else noDecl
def mHas (ob ol or:Option ODecl):Bool:=decide (mergeDErr ob ol or = 0) && (mergeD ob ol or).isSome
structure MergedO (ob ol or:Option ODecl) (X:List Nat) (w:World) (e:Ending) (w':World):Prop where
 of ::
 out:∃ an cn sa cs,e = .returned (.tuple #[declV (mOut ob ol or) an cn sa cs,.bool (mHas ob ol or),.int .i64 (mergeDErr ob ol or)])∧DecX w' X (mOut ob ol or) an cn sa cs∧Bw w w'
structure OneX (w:World) (X:List Nat) (od:Option ODecl) (a:Option Addr) (c:Nat):Prop where
  rd:Reads w X (declsT od.toList) (.slice a od.toList.length c)
  sm:∀ d,od = some d→SmD d∧nodesN d.body≤1000000
theorem OneX.below {w w':World} {X:List Nat} {od:Option ODecl} {a:Option Addr} {c:Nat} (h:OneX w X od a c) (m:Bw w w'):OneX w' X od a c:=⟨h.rd.below m,h.sm⟩
theorem OneX.more {w:World} {X:List Nat} {od:Option ODecl} {a:Option Addr} {c k:Nat} (h:OneX w X od a c) (hk:w.heap.size≤k):OneX w (k :: X) od a c:=⟨h.rd.more hk,h.sm⟩
theorem Reads_nil (w:World) (X:List Nat) (a:Option Addr) (c:Nat) (hc:c≤9223372036854775807):Reads w X (declsT []) (.slice a 0 c):=by
 unfold declsT rowT;rw [Reads];exact ⟨[],⟨by simp,a,c,rfl,Nat.zero_le _,by unfold maxLen;omega,fun h => absurd h (Nat.lt_irrefl _)⟩,fun h => absurd h (Nat.lt_irrefl _),by simp [ReadsL]⟩
theorem one_decl {w:World} {X:List Nat} {d:ODecl} {a:Option Addr} {c:Nat} (h:Reads w X (declsT [d]) (.slice a 1 c)):∃ (b o:Nat) (an:Option Addr) (cn:Nat) (sa:Option Addr) (cs:Nat),a = some ⟨b,o,none⟩∧b < w.heap.size ∧
    (∀ (j:Nat) (u:Value),(declL d an cn sa cs)[j]? = some u→w.cell? ⟨b,o + j,none⟩ = some u)∧DecX w X d an cn sa cs:=by
  obtain ⟨b,o,an,cn,sa,cs,rfl,hb,hc,h1,h2,h3,h4,h5,h6⟩:=decls_elem (l:=[d]) h (i:=0) (d:=d) rfl
  refine ⟨b,o,an,cn,sa,cs,rfl,hb,fun j u hj => ?_,⟨h3.out,h6.out,h1,h2,h4,h5⟩⟩
  have:=hc j u hj
  rwa [Nat.zero_mul,Nat.add_zero] at this
theorem MergedO.none' {ob ol or:Option ODecl} {X:List Nat} {w w':World} (h1:mergeDErr ob ol or = 0) (h2:mergeD ob ol or = none) (hb:Bw w w'):MergedO ob ol or X w (.returned (.tuple #[.agg #[.int .i64 0,.int .i64 0,.bool false,.slice none 0 0,.bool false,.int .i64 0,.string ⟨#[]⟩,.string ⟨#[]⟩,.int .i64 0,.int .i64 0,.slice none 0 0],.bool false,.int .i64 0])) w':=by
 have e:mOut ob ol or = noDecl:=by unfold mOut;rw [if_pos h1,h2];rfl
 have e2:mHas ob ol or = false:=by unfold mHas;rw [h2];simp
 refine ⟨none,0,none,0,?_,?_,hb⟩
 ·rw [e,e2,h1];rfl
 ·rw [e];exact noDecl_in _ _
theorem MergedO.some' {ob ol or:Option ODecl} {X:List Nat} {w w':World} {d:ODecl} {an:Option Addr} {cn:Nat} {sa:Option Addr} {cs:Nat} (h1:mergeDErr ob ol or = 0) (h2:mergeD ob ol or = some d) (hd:DecX w' X d an cn sa cs) (hb:Bw w w'):MergedO ob ol or X w (.returned (.tuple #[declV d an cn sa cs,.bool true,.int .i64 0])) w':=by
 have e:mOut ob ol or = d:=by unfold mOut;rw [if_pos h1,h2];rfl
 have e2:mHas ob ol or = true:=by unfold mHas;rw [h2,h1];rfl
 refine ⟨an,cn,sa,cs,?_,?_,hb⟩
 ·rw [e,e2,h1]
 ·rw [e];exact hd
set_option maxRecDepth 100000 in
set_option maxHeartbeats 8000000 in
theorem mergeDecl_none (ob:Option ODecl) (vb:Value) (al ar:Option Addr) (cl cr:Nat) (X:List Nat) (w:World) :
  Calls Tryz.prog 99 #[vb,.slice al 0 cl,.slice ar 0 cr] w (MergedO ob none none X w):=by
 have HO:=lH (CBox.new w 69 dZ);have hq:=qalloc w (.cells dZ 69)
 go_enter Tryz.func99,Tryz.ntmps99
 go_upto_region 1 with (fail)
 generalize World.alloc w _ = W0 at *;obtain ⟨o0,o1,o2,o3,o4,o5,o6,o7,o8,o9,o10,ol9⟩:=cells11 HO.out;obtain ⟨fo0,fo1,fo2,fo3,fo4,fo5,fo6,fo7,fo8,fo9,fo10⟩:=frozen11 HO.out;go_wp2;clear o0 fo0 o1 fo1 o2 fo2 o3 fo3 o4 fo4 o5 fo5 o6 fo6 o7 fo7 o8 fo8 o9 fo9 o10 fo10 ol9;obtain ⟨HC9,HM9⟩:=CBox.putZ (HO.out);generalize World.setCell _ ⟨w.heap.size,10,none⟩ _ = WZ at *;obtain ⟨r0,r1,r2,r3,r4,r5,r6,r7,r8,r9,r10,-⟩:=cells11 HC9
 refine bodyPost_ret (by simp [results,Tryz.results99,go_sem,r0,r1,r2,r3,r4,r5,r6,r7,r8,r9,r10];try rfl) rfl ?_;have hdZ:Bw w WZ:=hq.trans (HM9.upto hq.size (by intro k hk;simp at hk;omega));exact MergedO.none' rfl rfl hdZ
set_option maxRecDepth 100000 in
set_option maxHeartbeats 8000000 in
theorem mergeDecl_onel (ob:Option ODecl) (d:ODecl) (ab al ar:Option Addr) (cb cl cr:Nat) (X:List Nat) (w:World) (hX:∀ k,k∈X→k < w.heap.size) (hb:OneX w X ob ab cb) (hd:OneX w X (some d) al cl) (hc:cr≤9223372036854775807) :
  Calls Tryz.prog 99 #[.slice ab ob.toList.length cb,.slice al 1 cl,.slice ar 0 cr] w (MergedO ob (some d) none X w):=by
 have HX:=lH hX;have HBO:=lH hb;have HD:=lH hd;have HO:=lH (CBox.new w 69 dZ);have hq:=qalloc w (.cells dZ 69);have hME:Hid (mergeDErr ob (some d) none = 0):=by cases ob <;> rfl
 have hMD:Hid (mergeD ob (some d) none = oneD ob d):=by cases ob <;> rfl
 clear hX hb hd
 go_enter Tryz.func99,Tryz.ntmps99
 go_upto_region 9 with (fail)
 generalize World.alloc w _ = W0 at *;have hq2:=qalloc W0 (.cells #[.slice al 1 cl,.slice ar 0 cr] 33);have hq3:=qtrans hq hq2;have hbx:=CBox.new W0 33 #[.slice al 1 cl,.slice ar 0 cr];have HCC:=lH (ConcatDX_any _ (w.heap.size :: X) (fun k hk => by rcases List.mem_cons.1 hk with rfl | hk;exact Nat.lt_of_lt_of_le HO.out.lt hq2.size;exact Nat.lt_of_lt_of_le (HX.out k hk) hq3.size) [d] [] al ar cl cr W0.heap.size ((HD.out.more (k:=w.heap.size) (Nat.le_refl _)).below hq3).rd (Reads_nil _ _ _ _ hc) hbx.lt (hbx.cell (i:=0) rfl) (hbx.cell (i:=1) rfl) (by simp) (by simp))
 have HO2:=lH (HO.out.below hq2);have HQ3:=lH hq3;clear hbx hq hq2 hq3 HO;simp only [List.length_cons,List.length_nil,List.append_nil,Nat.zero_add] at HCC
 go_wp2_with (fail)
 refine HCC.out.mono ?_;rintro e w2 ⟨a2,c2,rfl,hrd,hb2⟩;obtain ⟨xb,xo,and,cnd,asd,csd,rfl,hxb,hxc,hdx⟩:=one_decl hrd;have HO3:=lH (HO2.out.below hb2);have HW3:Hid (Bw w w2):=HQ3.out.trans (hb2.mono HQ3.out.size);have HDX:=lH hdx;clear hrd hdx HCC HO2 HQ3 hb2;have c0:=hxc 0 (.int .i64 d.id) rfl;have c1:=hxc 1 (.int .i64 d.kind) rfl;have c2:=hxc 2 (.bool d.pub) rfl;have c3:=hxc 3 (.slice and d.names.length cnd) rfl;have c4:=hxc 4 (.bool d.doubt) rfl;have c5:=hxc 5 (.int .i64 d.body.kind) rfl;have c6:=hxc 6 (.string d.body.name) rfl
 have c7:=hxc 7 (.string d.body.more) rfl;have c8:=hxc 8 (.int .i64 d.body.num) rfl;have c9:=hxc 9 (.int .i64 d.body.den) rfl;have c10:=hxc 10 (.slice asd d.body.subs.length csd) rfl;rw [Nat.add_zero] at c0;clear hxc;have hal:=qalloc w2 (.cells (dA d and cnd asd csd) 69);have HN:=lH (CBox.new w2 69 (dA d and cnd asd csd));have HO4:=lH (HO3.out.below hal);have HW4:Hid (Bw w _):=HW3.out.trans (hal.mono HW3.out.size);have HDX4:=lH (HDX.out.below hal);have HDXN0:=lH (((HDX.out.more (Nat.le_refl _)).below hal));have hwN0:w.heap.size < w2.heap.size:=HO3.out.lt
 go_upto_region 10 with (fail)
 clear hal HO3 HW3 HDX hxb c0 c1 c2 c3 c4 c5 c6 c7 c8 c9 c10;generalize World.alloc w2 _ = W3 at *;obtain ⟨N,hN⟩:∃ N,w2.heap.size = N:=⟨_,rfl⟩;rw [hN] at HN ⊢;rw [hN] at HDXN0 hwN0;have hwNn:=lH hwN0;clear hN hwN0
 cases ob with
 | none =>
  have hMD:=hMD.out;obtain ⟨n0,n1,n2,n3,n4,n5,n6,n7,n8,n9,n10,nl9⟩:=cells11 HN.out;obtain ⟨o0,o1,o2,o3,o4,o5,o6,o7,o8,o9,o10,ol9⟩:=cells11 HO4.out;obtain ⟨fo0,fo1,fo2,fo3,fo4,fo5,fo6,fo7,fo8,fo9,fo10⟩:=frozen11 HO4.out;simp only [Option.toList_none,List.length_nil]
  go_wp2;clear o0 fo0 o1 fo1 o2 fo2 o3 fo3 o4 fo4 o5 fo5 o6 fo6 o7 fo7 o8 fo8 o9 fo9 o10 fo10 ol9 n0 n1 n2 n3 n4 n5 n6 n7 n8 n9 n10 nl9;obtain ⟨HC9,HM9⟩:=CBox.putD (HO4.out) d and cnd asd csd;generalize World.setCell _ ⟨w.heap.size,10,none⟩ _ = WZ at *;obtain ⟨r0,r1,r2,r3,r4,r5,r6,r7,r8,r9,r10,-⟩:=cells11 HC9;refine bodyPost_ret (by simp [results,Tryz.results99,go_sem,r0,r1,r2,r3,r4,r5,r6,r7,r8,r9,r10];try rfl) rfl ?_;have hdZ:Bw w WZ:=HW4.out.trans (HM9.upto HW4.out.size (by intro k hk;simp at hk;omega))
  have hdx9:=(HDX4.out.mod (HM9.mono inC)).fewer inT;exact MergedO.some' (d:=d) hME.out hMD hdx9 hdZ
 | some x =>
  have hMD:_ = (if sameD d x then none else some (doubtD d)):=hMD.out;have HMD:=lH hMD;clear hMD;have hbr:Reads W3 (w.heap.size :: X) (declsT [x]) (.slice ab 1 cb):=((HBO.out.more (k:=w.heap.size) (Nat.le_refl _)).below HW4.out).rd;obtain ⟨bb,bo,anx,cnx,asx,csx,rfl,hbb,hbc,hdb⟩:=one_decl hbr;have hsx:=HBO.out.sm x rfl;have hsd:=HD.out.sm d rfl;have HEQ:=lH (fun W (h:Bw W3 W) => mEqualDecl_any d x and anx asd asx cnd cnx csd csx W (HDX4.out.free.below h) (hdb.free.below h) hsd.1.len (by have:=hsd.2;omega));clear hbr hdb hsx hsd;unfold declV at HEQ
  simp only [Option.toList_some,List.length_cons,List.length_nil,Nat.zero_add]
  go_upto_region 12 with (fail)
  obtain ⟨n0,n1,n2,n3,n4,n5,n6,n7,n8,n9,n10,nl9⟩:=cells11 HN.out;have c0:=hbc 0 (.int .i64 x.id) rfl;have c1:=hbc 1 (.int .i64 x.kind) rfl;have c2:=hbc 2 (.bool x.pub) rfl;have c3:=hbc 3 (.slice anx x.names.length cnx) rfl;have c4:=hbc 4 (.bool x.doubt) rfl;have c5:=hbc 5 (.int .i64 x.body.kind) rfl;have c6:=hbc 6 (.string x.body.name) rfl;have c7:=hbc 7 (.string x.body.more) rfl;have c8:=hbc 8 (.int .i64 x.body.num) rfl;have c9:=hbc 9 (.int .i64 x.body.den) rfl;have c10:=hbc 10 (.slice asx x.body.subs.length csx) rfl;rw [Nat.add_zero] at c0
  have hb0:Bw W3 W3.drew:=(Mod.refl [] W3).drew.below
  have hS:(fun W:World => W.cell? ⟨N,0,none⟩ = some (.int .i64 d.id)∧W.cell? ⟨N,1,none⟩ = some (.int .i64 d.kind)∧W.cell? ⟨N,2,none⟩ = some (.bool d.pub)∧W.cell? ⟨N,3,none⟩ = some (.slice and d.names.length cnd)∧W.cell? ⟨N,4,none⟩ = some (.bool d.doubt)∧W.cell? ⟨N,5,none⟩ = some (.int .i64 d.body.kind)∧W.cell? ⟨N,6,none⟩ = some (.string d.body.name)∧W.cell? ⟨N,7,none⟩ = some (.string d.body.more)∧W.cell? ⟨N,8,none⟩ = some (.int .i64 d.body.num)∧W.cell? ⟨N,9,none⟩ = some (.int .i64 d.body.den)∧W.cell? ⟨N,10,none⟩ = some (.slice asd d.body.subs.length csd)∧W.cell? ⟨bb,bo,none⟩ = some (.int .i64 x.id)∧W.cell? ⟨bb,bo + 1,none⟩ = some (.int .i64 x.kind)∧W.cell? ⟨bb,bo + 2,none⟩ = some (.bool x.pub)∧W.cell? ⟨bb,bo + 3,none⟩ = some (.slice anx x.names.length cnx)∧W.cell? ⟨bb,bo + 4,none⟩ = some (.bool x.doubt)∧W.cell? ⟨bb,bo + 5,none⟩ = some (.int .i64 x.body.kind)∧W.cell? ⟨bb,bo + 6,none⟩ = some (.string x.body.name)∧W.cell? ⟨bb,bo + 7,none⟩ = some (.string x.body.more)∧W.cell? ⟨bb,bo + 8,none⟩ = some (.int .i64 x.body.num)∧W.cell? ⟨bb,bo + 9,none⟩ = some (.int .i64 x.body.den)∧W.cell? ⟨bb,bo + 10,none⟩ = some (.slice asx x.body.subs.length csx)∧N < W.heap.size∧bb < W.heap.size) W3.drew:=⟨(hb0.cell (p:=⟨N,_,none⟩) nl9).trans n0,(hb0.cell (p:=⟨N,_,none⟩) nl9).trans n1,(hb0.cell (p:=⟨N,_,none⟩) nl9).trans n2,(hb0.cell (p:=⟨N,_,none⟩) nl9).trans n3,(hb0.cell (p:=⟨N,_,none⟩) nl9).trans n4,(hb0.cell (p:=⟨N,_,none⟩) nl9).trans n5,(hb0.cell (p:=⟨N,_,none⟩) nl9).trans n6,(hb0.cell (p:=⟨N,_,none⟩) nl9).trans n7,(hb0.cell (p:=⟨N,_,none⟩) nl9).trans n8,(hb0.cell (p:=⟨N,_,none⟩) nl9).trans n9,(hb0.cell (p:=⟨N,_,none⟩) nl9).trans n10,(hb0.cell (p:=⟨bb,_,none⟩) hbb).trans c0,(hb0.cell (p:=⟨bb,_,none⟩) hbb).trans c1,(hb0.cell (p:=⟨bb,_,none⟩) hbb).trans c2,(hb0.cell (p:=⟨bb,_,none⟩) hbb).trans c3,(hb0.cell (p:=⟨bb,_,none⟩) hbb).trans c4,(hb0.cell (p:=⟨bb,_,none⟩) hbb).trans c5,(hb0.cell (p:=⟨bb,_,none⟩) hbb).trans c6,(hb0.cell (p:=⟨bb,_,none⟩) hbb).trans c7,(hb0.cell (p:=⟨bb,_,none⟩) hbb).trans c8,(hb0.cell (p:=⟨bb,_,none⟩) hbb).trans c9,(hb0.cell (p:=⟨bb,_,none⟩) hbb).trans c10,nl9,hbb⟩
  generalize sameD d x = q at *;clear hbc n0 n1 n2 n3 n4 n5 n6 n7 n8 n9 n10 nl9 c0 c1 c2 c3 c4 c5 c6 c7 c8 c9 c10
  go_cut [70] from 66 to 70 (fun v wx => v = .bool q∧Bw W3 wx)
  case first =>
   refine wp_region_noPanic (region_planG (fun W:World => W.cell? ⟨N,0,none⟩ = some (.int .i64 d.id)∧W.cell? ⟨N,1,none⟩ = some (.int .i64 d.kind)∧W.cell? ⟨N,2,none⟩ = some (.bool d.pub)∧W.cell? ⟨N,3,none⟩ = some (.slice and d.names.length cnd)∧W.cell? ⟨N,4,none⟩ = some (.bool d.doubt)∧W.cell? ⟨N,5,none⟩ = some (.int .i64 d.body.kind)∧W.cell? ⟨N,6,none⟩ = some (.string d.body.name)∧W.cell? ⟨N,7,none⟩ = some (.string d.body.more)∧W.cell? ⟨N,8,none⟩ = some (.int .i64 d.body.num)∧W.cell? ⟨N,9,none⟩ = some (.int .i64 d.body.den)∧W.cell? ⟨N,10,none⟩ = some (.slice asd d.body.subs.length csd)∧W.cell? ⟨bb,bo,none⟩ = some (.int .i64 x.id)∧W.cell? ⟨bb,bo + 1,none⟩ = some (.int .i64 x.kind)∧W.cell? ⟨bb,bo + 2,none⟩ = some (.bool x.pub)∧W.cell? ⟨bb,bo + 3,none⟩ = some (.slice anx x.names.length cnx)∧W.cell? ⟨bb,bo + 4,none⟩ = some (.bool x.doubt)∧W.cell? ⟨bb,bo + 5,none⟩ = some (.int .i64 x.body.kind)∧W.cell? ⟨bb,bo + 6,none⟩ = some (.string x.body.name)∧W.cell? ⟨bb,bo + 7,none⟩ = some (.string x.body.more)∧W.cell? ⟨bb,bo + 8,none⟩ = some (.int .i64 x.body.num)∧W.cell? ⟨bb,bo + 9,none⟩ = some (.int .i64 x.body.den)∧W.cell? ⟨bb,bo + 10,none⟩ = some (.slice asx x.body.subs.length csx)∧N < W.heap.size∧bb < W.heap.size) 4 [(true,0),(true,1),(true,2),(true,3)] mixedK (by kernel_rfl) (fun _ _ _ _ _ h => h) hS ?_)
   clear hS
   iterate 4 (refine planG_take (v:=?_) rfl (by rfl) ?_ ?_;rotate_left;(focus (intro wq hSw;(try dsimp only at hSw);go_simp;(try rw [if_neg (by first | omega | (simp;omega))]);(try with_reducible rfl)));(try simp only [gA,gB,gC,Act.put,gD,gE,gF]))
   refine planG_end ?_;generalize W3.drew = v0 at *;go_wp2_with (fail)
   refine (HEQ.out v0 hb0).mono ?_;rintro e v1 ⟨rfl,hb1⟩;go_wp2;refine NoPanic.normal ?_;go_wp2;go_meet
   case rel => exact ⟨rfl,qtrans hb0 hb1⟩
  case rest =>
  obtain ⟨rfl,hb5⟩:=hcut;generalize wc = W4 at *;have HO5:=lH (HO4.out.below hb5);have HN5:=lH (HN.out.below hb5);have HW5:Hid (Bw w W4):=HW4.out.trans (hb5.mono HW4.out.size);have HDX5:=lH (HDX4.out.below hb5);have HDXN:=lH (HDXN0.out.below hb5)
  have hwN:Hid (w.heap.size < N):=by
   show _ < _
   exact hwNn.out
  clear hS hb0 hb5 HO4 HN HW4 HDX4 HEQ
  cases q with
  | true =>
   have HMD:=lH (HMD.out.trans (if_pos rfl));obtain ⟨o0,o1,o2,o3,o4,o5,o6,o7,o8,o9,o10,ol9⟩:=cells11 HO5.out;obtain ⟨fo0,fo1,fo2,fo3,fo4,fo5,fo6,fo7,fo8,fo9,fo10⟩:=frozen11 HO5.out;go_wp2;clear o0 fo0 o1 fo1 o2 fo2 o3 fo3 o4 fo4 o5 fo5 o6 fo6 o7 fo7 o8 fo8 o9 fo9 o10 fo10 ol9;obtain ⟨HC9,HM9⟩:=CBox.putZ (HO5.out);generalize World.setCell _ ⟨w.heap.size,10,none⟩ _ = WZ at *;obtain ⟨r0,r1,r2,r3,r4,r5,r6,r7,r8,r9,r10,-⟩:=cells11 HC9
   refine bodyPost_ret (by simp [results,Tryz.results99,go_sem,r0,r1,r2,r3,r4,r5,r6,r7,r8,r9,r10];try rfl) rfl ?_;have hdZ:Bw w WZ:=HW5.out.trans (HM9.upto HW5.out.size (by intro k hk;simp at hk;omega));exact MergedO.none' hME.out HMD.out hdZ
  | false =>
   have HMD:=lH (HMD.out.trans (if_neg Bool.false_ne_true));have n4:=HN5.out.cell (i:=4) (v:=.bool d.doubt) rfl;have f4:=HN5.out.frozen 4;have nl9:=HN5.out.lt;go_upto_region 15 with (fail)
   clear n4 f4 nl9;have HN6:Hid (CBox (W4.setCell ⟨N,4,none⟩ (.bool true)) N 69 #[.int .i64 d.id,.int .i64 d.kind,.bool d.pub,.slice and d.names.length cnd,.bool true,.int .i64 d.body.kind,.string d.body.name,.string d.body.more,.int .i64 d.body.num,.int .i64 d.body.den,.slice asd d.body.subs.length csd]):=HN5.out.set 4 _;have HM6:Mod [N] W4 (W4.setCell ⟨N,4,none⟩ (.bool true)):=(Mod.refl [N] W4).setCell (p:=⟨N,4,none⟩) (by simp) _;have HO6:=lH (HO5.out.mod HM6 (by have:=hwN.out;simp;omega))
   have HW6:Hid (Bw w (W4.setCell ⟨N,4,none⟩ (.bool true))):=HW5.out.trans (HM6.upto HW5.out.size (by intro k hk;have:=hwN.out;simp at hk;omega))
   have HDX6:Hid (DecX (W4.setCell ⟨N,4,none⟩ (.bool true)) (w.heap.size :: X) (doubtD d) and cnd asd csd):=by
    have h:=HDXN.out.mod (HM6.mono inC);have h:=h.fewer (Y:=w.heap.size :: X) inT;exact ⟨h.names,h.subs,h.hn1,h.hn2,h.hs1,h.hs2⟩
   generalize World.setCell _ ⟨N,4,none⟩ _ = W5 at *;clear HM6;obtain ⟨n0,n1,n2,n3,n4,n5,n6,n7,n8,n9,n10,nl9⟩:=cells11 HN6.out;obtain ⟨o0,o1,o2,o3,o4,o5,o6,o7,o8,o9,o10,ol9⟩:=cells11 HO6.out;obtain ⟨fo0,fo1,fo2,fo3,fo4,fo5,fo6,fo7,fo8,fo9,fo10⟩:=frozen11 HO6.out;go_wp2;clear o0 fo0 o1 fo1 o2 fo2 o3 fo3 o4 fo4 o5 fo5 o6 fo6 o7 fo7 o8 fo8 o9 fo9 o10 fo10 ol9 n0 n1 n2 n3 n4 n5 n6 n7 n8 n9 n10 nl9
   obtain ⟨HC9,HM9⟩:=CBox.eleven (HO6.out) (.int .i64 d.id) (.int .i64 d.kind) (.bool d.pub) (.slice and d.names.length cnd) (.bool true) (.int .i64 d.body.kind) (.string d.body.name) (.string d.body.more) (.int .i64 d.body.num) (.int .i64 d.body.den) (.slice asd d.body.subs.length csd);generalize World.setCell _ ⟨w.heap.size,10,none⟩ _ = WZ at *;obtain ⟨r0,r1,r2,r3,r4,r5,r6,r7,r8,r9,r10,-⟩:=cells11 HC9;refine bodyPost_ret (by simp [results,Tryz.results99,go_sem,r0,r1,r2,r3,r4,r5,r6,r7,r8,r9,r10];try rfl) rfl ?_
   have hdZ:Bw w WZ:=HW6.out.trans (HM9.upto HW6.out.size (by intro k hk;simp at hk;omega));have hdx9:=(HDX6.out.mod (HM9.mono inC)).fewer inT;exact MergedO.some' (d:=doubtD d) hME.out HMD.out hdx9 hdZ
set_option maxRecDepth 100000 in
set_option maxHeartbeats 8000000 in
theorem mergeDecl_oner (ob:Option ODecl) (d:ODecl) (ab al ar:Option Addr) (cb cl cr:Nat) (X:List Nat) (w:World) (hX:∀ k,k∈X→k < w.heap.size) (hb:OneX w X ob ab cb) (hd:OneX w X (some d) ar cr) (hc:cl≤9223372036854775807) :
  Calls Tryz.prog 99 #[.slice ab ob.toList.length cb,.slice al 0 cl,.slice ar 1 cr] w (MergedO ob none (some d) X w):=by
 have HX:=lH hX;have HBO:=lH hb;have HD:=lH hd;have HO:=lH (CBox.new w 69 dZ);have hq:=qalloc w (.cells dZ 69);have hME:Hid (mergeDErr ob none (some d) = 0):=by cases ob <;> rfl
 have hMD:Hid (mergeD ob none (some d) = oneD ob d):=by cases ob <;> rfl
 clear hX hb hd
 go_enter Tryz.func99,Tryz.ntmps99
 go_upto_region 9 with (fail)
 generalize World.alloc w _ = W0 at *;have hq2:=qalloc W0 (.cells #[.slice al 0 cl,.slice ar 1 cr] 33);have hq3:=qtrans hq hq2;have hbx:=CBox.new W0 33 #[.slice al 0 cl,.slice ar 1 cr];have HCC:=lH (ConcatDX_any _ (w.heap.size :: X) (fun k hk => by rcases List.mem_cons.1 hk with rfl | hk;exact Nat.lt_of_lt_of_le HO.out.lt hq2.size;exact Nat.lt_of_lt_of_le (HX.out k hk) hq3.size) [] [d] al ar cl cr W0.heap.size (Reads_nil _ _ _ _ hc) ((HD.out.more (k:=w.heap.size) (Nat.le_refl _)).below hq3).rd hbx.lt (hbx.cell (i:=0) rfl) (hbx.cell (i:=1) rfl) (by simp) (by simp))
 have HO2:=lH (HO.out.below hq2);have HQ3:=lH hq3;clear hbx hq hq2 hq3 HO;simp only [List.length_cons,List.length_nil,List.nil_append,Nat.zero_add] at HCC
 go_wp2_with (fail)
 refine HCC.out.mono ?_;rintro e w2 ⟨a2,c2,rfl,hrd,hb2⟩;obtain ⟨xb,xo,and,cnd,asd,csd,rfl,hxb,hxc,hdx⟩:=one_decl hrd;have HO3:=lH (HO2.out.below hb2);have HW3:Hid (Bw w w2):=HQ3.out.trans (hb2.mono HQ3.out.size);have HDX:=lH hdx;clear hrd hdx HCC HO2 HQ3 hb2;have c0:=hxc 0 (.int .i64 d.id) rfl;have c1:=hxc 1 (.int .i64 d.kind) rfl;have c2:=hxc 2 (.bool d.pub) rfl;have c3:=hxc 3 (.slice and d.names.length cnd) rfl;have c4:=hxc 4 (.bool d.doubt) rfl;have c5:=hxc 5 (.int .i64 d.body.kind) rfl;have c6:=hxc 6 (.string d.body.name) rfl
 have c7:=hxc 7 (.string d.body.more) rfl;have c8:=hxc 8 (.int .i64 d.body.num) rfl;have c9:=hxc 9 (.int .i64 d.body.den) rfl;have c10:=hxc 10 (.slice asd d.body.subs.length csd) rfl;rw [Nat.add_zero] at c0;clear hxc;have hal:=qalloc w2 (.cells (dA d and cnd asd csd) 69);have HN:=lH (CBox.new w2 69 (dA d and cnd asd csd));have HO4:=lH (HO3.out.below hal);have HW4:Hid (Bw w _):=HW3.out.trans (hal.mono HW3.out.size);have HDX4:=lH (HDX.out.below hal);have HDXN0:=lH (((HDX.out.more (Nat.le_refl _)).below hal));have hwN0:w.heap.size < w2.heap.size:=HO3.out.lt
 go_upto_region 10 with (fail)
 clear hal HO3 HW3 HDX hxb c0 c1 c2 c3 c4 c5 c6 c7 c8 c9 c10;generalize World.alloc w2 _ = W3 at *;obtain ⟨N,hN⟩:∃ N,w2.heap.size = N:=⟨_,rfl⟩;rw [hN] at HN ⊢;rw [hN] at HDXN0 hwN0;have hwNn:=lH hwN0;clear hN hwN0
 cases ob with
 | none =>
  have hMD:=hMD.out;obtain ⟨n0,n1,n2,n3,n4,n5,n6,n7,n8,n9,n10,nl9⟩:=cells11 HN.out;obtain ⟨o0,o1,o2,o3,o4,o5,o6,o7,o8,o9,o10,ol9⟩:=cells11 HO4.out;obtain ⟨fo0,fo1,fo2,fo3,fo4,fo5,fo6,fo7,fo8,fo9,fo10⟩:=frozen11 HO4.out;simp only [Option.toList_none,List.length_nil]
  go_wp2;clear o0 fo0 o1 fo1 o2 fo2 o3 fo3 o4 fo4 o5 fo5 o6 fo6 o7 fo7 o8 fo8 o9 fo9 o10 fo10 ol9 n0 n1 n2 n3 n4 n5 n6 n7 n8 n9 n10 nl9;obtain ⟨HC9,HM9⟩:=CBox.putD (HO4.out) d and cnd asd csd;generalize World.setCell _ ⟨w.heap.size,10,none⟩ _ = WZ at *;obtain ⟨r0,r1,r2,r3,r4,r5,r6,r7,r8,r9,r10,-⟩:=cells11 HC9;refine bodyPost_ret (by simp [results,Tryz.results99,go_sem,r0,r1,r2,r3,r4,r5,r6,r7,r8,r9,r10];try rfl) rfl ?_;have hdZ:Bw w WZ:=HW4.out.trans (HM9.upto HW4.out.size (by intro k hk;simp at hk;omega))
  have hdx9:=(HDX4.out.mod (HM9.mono inC)).fewer inT;exact MergedO.some' (d:=d) hME.out hMD hdx9 hdZ
 | some x =>
  have hMD:_ = (if sameD d x then none else some (doubtD d)):=hMD.out;have HMD:=lH hMD;clear hMD;have hbr:Reads W3 (w.heap.size :: X) (declsT [x]) (.slice ab 1 cb):=((HBO.out.more (k:=w.heap.size) (Nat.le_refl _)).below HW4.out).rd;obtain ⟨bb,bo,anx,cnx,asx,csx,rfl,hbb,hbc,hdb⟩:=one_decl hbr;have hsx:=HBO.out.sm x rfl;have hsd:=HD.out.sm d rfl;have HEQ:=lH (fun W (h:Bw W3 W) => mEqualDecl_any d x and anx asd asx cnd cnx csd csx W (HDX4.out.free.below h) (hdb.free.below h) hsd.1.len (by have:=hsd.2;omega));clear hbr hdb hsx hsd;unfold declV at HEQ
  simp only [Option.toList_some,List.length_cons,List.length_nil,Nat.zero_add]
  go_upto_region 12 with (fail)
  obtain ⟨n0,n1,n2,n3,n4,n5,n6,n7,n8,n9,n10,nl9⟩:=cells11 HN.out;have c0:=hbc 0 (.int .i64 x.id) rfl;have c1:=hbc 1 (.int .i64 x.kind) rfl;have c2:=hbc 2 (.bool x.pub) rfl;have c3:=hbc 3 (.slice anx x.names.length cnx) rfl;have c4:=hbc 4 (.bool x.doubt) rfl;have c5:=hbc 5 (.int .i64 x.body.kind) rfl;have c6:=hbc 6 (.string x.body.name) rfl;have c7:=hbc 7 (.string x.body.more) rfl;have c8:=hbc 8 (.int .i64 x.body.num) rfl;have c9:=hbc 9 (.int .i64 x.body.den) rfl;have c10:=hbc 10 (.slice asx x.body.subs.length csx) rfl;rw [Nat.add_zero] at c0
  have hb0:Bw W3 W3.drew:=(Mod.refl [] W3).drew.below
  have hS:(fun W:World => W.cell? ⟨N,0,none⟩ = some (.int .i64 d.id)∧W.cell? ⟨N,1,none⟩ = some (.int .i64 d.kind)∧W.cell? ⟨N,2,none⟩ = some (.bool d.pub)∧W.cell? ⟨N,3,none⟩ = some (.slice and d.names.length cnd)∧W.cell? ⟨N,4,none⟩ = some (.bool d.doubt)∧W.cell? ⟨N,5,none⟩ = some (.int .i64 d.body.kind)∧W.cell? ⟨N,6,none⟩ = some (.string d.body.name)∧W.cell? ⟨N,7,none⟩ = some (.string d.body.more)∧W.cell? ⟨N,8,none⟩ = some (.int .i64 d.body.num)∧W.cell? ⟨N,9,none⟩ = some (.int .i64 d.body.den)∧W.cell? ⟨N,10,none⟩ = some (.slice asd d.body.subs.length csd)∧W.cell? ⟨bb,bo,none⟩ = some (.int .i64 x.id)∧W.cell? ⟨bb,bo + 1,none⟩ = some (.int .i64 x.kind)∧W.cell? ⟨bb,bo + 2,none⟩ = some (.bool x.pub)∧W.cell? ⟨bb,bo + 3,none⟩ = some (.slice anx x.names.length cnx)∧W.cell? ⟨bb,bo + 4,none⟩ = some (.bool x.doubt)∧W.cell? ⟨bb,bo + 5,none⟩ = some (.int .i64 x.body.kind)∧W.cell? ⟨bb,bo + 6,none⟩ = some (.string x.body.name)∧W.cell? ⟨bb,bo + 7,none⟩ = some (.string x.body.more)∧W.cell? ⟨bb,bo + 8,none⟩ = some (.int .i64 x.body.num)∧W.cell? ⟨bb,bo + 9,none⟩ = some (.int .i64 x.body.den)∧W.cell? ⟨bb,bo + 10,none⟩ = some (.slice asx x.body.subs.length csx)∧N < W.heap.size∧bb < W.heap.size) W3.drew:=⟨(hb0.cell (p:=⟨N,_,none⟩) nl9).trans n0,(hb0.cell (p:=⟨N,_,none⟩) nl9).trans n1,(hb0.cell (p:=⟨N,_,none⟩) nl9).trans n2,(hb0.cell (p:=⟨N,_,none⟩) nl9).trans n3,(hb0.cell (p:=⟨N,_,none⟩) nl9).trans n4,(hb0.cell (p:=⟨N,_,none⟩) nl9).trans n5,(hb0.cell (p:=⟨N,_,none⟩) nl9).trans n6,(hb0.cell (p:=⟨N,_,none⟩) nl9).trans n7,(hb0.cell (p:=⟨N,_,none⟩) nl9).trans n8,(hb0.cell (p:=⟨N,_,none⟩) nl9).trans n9,(hb0.cell (p:=⟨N,_,none⟩) nl9).trans n10,(hb0.cell (p:=⟨bb,_,none⟩) hbb).trans c0,(hb0.cell (p:=⟨bb,_,none⟩) hbb).trans c1,(hb0.cell (p:=⟨bb,_,none⟩) hbb).trans c2,(hb0.cell (p:=⟨bb,_,none⟩) hbb).trans c3,(hb0.cell (p:=⟨bb,_,none⟩) hbb).trans c4,(hb0.cell (p:=⟨bb,_,none⟩) hbb).trans c5,(hb0.cell (p:=⟨bb,_,none⟩) hbb).trans c6,(hb0.cell (p:=⟨bb,_,none⟩) hbb).trans c7,(hb0.cell (p:=⟨bb,_,none⟩) hbb).trans c8,(hb0.cell (p:=⟨bb,_,none⟩) hbb).trans c9,(hb0.cell (p:=⟨bb,_,none⟩) hbb).trans c10,nl9,hbb⟩
  generalize sameD d x = q at *;clear hbc n0 n1 n2 n3 n4 n5 n6 n7 n8 n9 n10 nl9 c0 c1 c2 c3 c4 c5 c6 c7 c8 c9 c10
  go_cut [70] from 66 to 70 (fun v wx => v = .bool q∧Bw W3 wx)
  case first =>
   refine wp_region_noPanic (region_planG (fun W:World => W.cell? ⟨N,0,none⟩ = some (.int .i64 d.id)∧W.cell? ⟨N,1,none⟩ = some (.int .i64 d.kind)∧W.cell? ⟨N,2,none⟩ = some (.bool d.pub)∧W.cell? ⟨N,3,none⟩ = some (.slice and d.names.length cnd)∧W.cell? ⟨N,4,none⟩ = some (.bool d.doubt)∧W.cell? ⟨N,5,none⟩ = some (.int .i64 d.body.kind)∧W.cell? ⟨N,6,none⟩ = some (.string d.body.name)∧W.cell? ⟨N,7,none⟩ = some (.string d.body.more)∧W.cell? ⟨N,8,none⟩ = some (.int .i64 d.body.num)∧W.cell? ⟨N,9,none⟩ = some (.int .i64 d.body.den)∧W.cell? ⟨N,10,none⟩ = some (.slice asd d.body.subs.length csd)∧W.cell? ⟨bb,bo,none⟩ = some (.int .i64 x.id)∧W.cell? ⟨bb,bo + 1,none⟩ = some (.int .i64 x.kind)∧W.cell? ⟨bb,bo + 2,none⟩ = some (.bool x.pub)∧W.cell? ⟨bb,bo + 3,none⟩ = some (.slice anx x.names.length cnx)∧W.cell? ⟨bb,bo + 4,none⟩ = some (.bool x.doubt)∧W.cell? ⟨bb,bo + 5,none⟩ = some (.int .i64 x.body.kind)∧W.cell? ⟨bb,bo + 6,none⟩ = some (.string x.body.name)∧W.cell? ⟨bb,bo + 7,none⟩ = some (.string x.body.more)∧W.cell? ⟨bb,bo + 8,none⟩ = some (.int .i64 x.body.num)∧W.cell? ⟨bb,bo + 9,none⟩ = some (.int .i64 x.body.den)∧W.cell? ⟨bb,bo + 10,none⟩ = some (.slice asx x.body.subs.length csx)∧N < W.heap.size∧bb < W.heap.size) 4 [(true,0),(true,1),(true,2),(true,3)] mixedK (by kernel_rfl) (fun _ _ _ _ _ h => h) hS ?_)
   clear hS
   iterate 4 (refine planG_take (v:=?_) rfl (by rfl) ?_ ?_;rotate_left;(focus (intro wq hSw;(try dsimp only at hSw);go_simp;(try rw [if_neg (by first | omega | (simp;omega))]);(try with_reducible rfl)));(try simp only [gA,gB,gC,Act.put,gD,gE,gF]))
   refine planG_end ?_;generalize W3.drew = v0 at *;go_wp2_with (fail)
   refine (HEQ.out v0 hb0).mono ?_;rintro e v1 ⟨rfl,hb1⟩;go_wp2;refine NoPanic.normal ?_;go_wp2;go_meet
   case rel => exact ⟨rfl,qtrans hb0 hb1⟩
  case rest =>
  obtain ⟨rfl,hb5⟩:=hcut;generalize wc = W4 at *;have HO5:=lH (HO4.out.below hb5);have HN5:=lH (HN.out.below hb5);have HW5:Hid (Bw w W4):=HW4.out.trans (hb5.mono HW4.out.size);have HDX5:=lH (HDX4.out.below hb5);have HDXN:=lH (HDXN0.out.below hb5)
  have hwN:Hid (w.heap.size < N):=by
   show _ < _
   exact hwNn.out
  clear hS hb0 hb5 HO4 HN HW4 HDX4 HEQ
  cases q with
  | true =>
   have HMD:=lH (HMD.out.trans (if_pos rfl));obtain ⟨o0,o1,o2,o3,o4,o5,o6,o7,o8,o9,o10,ol9⟩:=cells11 HO5.out;obtain ⟨fo0,fo1,fo2,fo3,fo4,fo5,fo6,fo7,fo8,fo9,fo10⟩:=frozen11 HO5.out;go_wp2;clear o0 fo0 o1 fo1 o2 fo2 o3 fo3 o4 fo4 o5 fo5 o6 fo6 o7 fo7 o8 fo8 o9 fo9 o10 fo10 ol9;obtain ⟨HC9,HM9⟩:=CBox.putZ (HO5.out);generalize World.setCell _ ⟨w.heap.size,10,none⟩ _ = WZ at *;obtain ⟨r0,r1,r2,r3,r4,r5,r6,r7,r8,r9,r10,-⟩:=cells11 HC9
   refine bodyPost_ret (by simp [results,Tryz.results99,go_sem,r0,r1,r2,r3,r4,r5,r6,r7,r8,r9,r10];try rfl) rfl ?_;have hdZ:Bw w WZ:=HW5.out.trans (HM9.upto HW5.out.size (by intro k hk;simp at hk;omega));exact MergedO.none' hME.out HMD.out hdZ
  | false =>
   have HMD:=lH (HMD.out.trans (if_neg Bool.false_ne_true));have n4:=HN5.out.cell (i:=4) (v:=.bool d.doubt) rfl;have f4:=HN5.out.frozen 4;have nl9:=HN5.out.lt;go_upto_region 15 with (fail)
   clear n4 f4 nl9;have HN6:Hid (CBox (W4.setCell ⟨N,4,none⟩ (.bool true)) N 69 #[.int .i64 d.id,.int .i64 d.kind,.bool d.pub,.slice and d.names.length cnd,.bool true,.int .i64 d.body.kind,.string d.body.name,.string d.body.more,.int .i64 d.body.num,.int .i64 d.body.den,.slice asd d.body.subs.length csd]):=HN5.out.set 4 _;have HM6:Mod [N] W4 (W4.setCell ⟨N,4,none⟩ (.bool true)):=(Mod.refl [N] W4).setCell (p:=⟨N,4,none⟩) (by simp) _;have HO6:=lH (HO5.out.mod HM6 (by have:=hwN.out;simp;omega))
   have HW6:Hid (Bw w (W4.setCell ⟨N,4,none⟩ (.bool true))):=HW5.out.trans (HM6.upto HW5.out.size (by intro k hk;have:=hwN.out;simp at hk;omega))
   have HDX6:Hid (DecX (W4.setCell ⟨N,4,none⟩ (.bool true)) (w.heap.size :: X) (doubtD d) and cnd asd csd):=by
    have h:=HDXN.out.mod (HM6.mono inC);have h:=h.fewer (Y:=w.heap.size :: X) inT;exact ⟨h.names,h.subs,h.hn1,h.hn2,h.hs1,h.hs2⟩
   generalize World.setCell _ ⟨N,4,none⟩ _ = W5 at *;clear HM6;obtain ⟨n0,n1,n2,n3,n4,n5,n6,n7,n8,n9,n10,nl9⟩:=cells11 HN6.out;obtain ⟨o0,o1,o2,o3,o4,o5,o6,o7,o8,o9,o10,ol9⟩:=cells11 HO6.out;obtain ⟨fo0,fo1,fo2,fo3,fo4,fo5,fo6,fo7,fo8,fo9,fo10⟩:=frozen11 HO6.out;go_wp2;clear o0 fo0 o1 fo1 o2 fo2 o3 fo3 o4 fo4 o5 fo5 o6 fo6 o7 fo7 o8 fo8 o9 fo9 o10 fo10 ol9 n0 n1 n2 n3 n4 n5 n6 n7 n8 n9 n10 nl9
   obtain ⟨HC9,HM9⟩:=CBox.eleven (HO6.out) (.int .i64 d.id) (.int .i64 d.kind) (.bool d.pub) (.slice and d.names.length cnd) (.bool true) (.int .i64 d.body.kind) (.string d.body.name) (.string d.body.more) (.int .i64 d.body.num) (.int .i64 d.body.den) (.slice asd d.body.subs.length csd);generalize World.setCell _ ⟨w.heap.size,10,none⟩ _ = WZ at *;obtain ⟨r0,r1,r2,r3,r4,r5,r6,r7,r8,r9,r10,-⟩:=cells11 HC9;refine bodyPost_ret (by simp [results,Tryz.results99,go_sem,r0,r1,r2,r3,r4,r5,r6,r7,r8,r9,r10];try rfl) rfl ?_
   have hdZ:Bw w WZ:=HW6.out.trans (HM9.upto HW6.out.size (by intro k hk;simp at hk;omega));have hdx9:=(HDX6.out.mod (HM9.mono inC)).fewer inT;exact MergedO.some' (d:=doubtD d) hME.out HMD.out hdx9 hdZ
theorem old_in (w:World) (X:List Nat) (hX:∀ k,k∈X→k < w.heap.size):DecX (w.alloc (.cells #[.string ⟨#[]⟩] 9)) X oldD (some ⟨w.heap.size,0,none⟩) 1 none 0:=by
 refine ⟨reads_strs.2 ⟨⟨rfl,some ⟨w.heap.size,0,none⟩,1,rfl,Nat.le_refl _,by unfold maxLen;omega,fun _ => ⟨w.heap.size,0,rfl,by rw [World.size_alloc];omega,fun j q hj => ?_⟩⟩,fun _ k hk => by cases hk;exact fun h => absurd (hX w.heap.size h) (by omega)⟩,Reads.nilRow _ X 6 exprT,Nat.le_refl _,by decide,Nat.le_refl _,Nat.zero_le _⟩;rw [Nat.zero_add];exact (CBox.new w 9 #[.string ⟨#[]⟩]).cell (i:=j) (v:=q) (by rw [List.getElem?_toArray];exact hj)
theorem old_sm:SmD oldD∧nodesN oldD.body≤1000000:=by
 refine ⟨⟨fun s hs => ?_,by decide,?_,?_⟩,?_⟩
 ·have:s = ⟨#[]⟩:=by simpa [oldD] using hs
  rw [this];decide
 ·exact SmX.mk (by decide) (by decide) (by unfold inI;omega) (by unfold inI;omega) (by unfold inI;omega) (fun y hy => by cases hy)
 ·show nodesN nilX≤_;unfold nilX;simp [nodesN,nodesL]
 ·show nodesN nilX≤_;unfold nilX;simp [nodesN,nodesL]
set_option maxRecDepth 100000 in
set_option maxHeartbeats 8000000 in
theorem mergeDecl_both (ob:Option ODecl) (l r:ODecl) (ab al ar:Option Addr) (cb cl cr:Nat) (X:List Nat) (w:World) (hX:∀ k,k∈X→k < w.heap.size) (hb:OneX w X ob ab cb) (hl:OneX w X (some l) al cl) (hr:OneX w X (some r) ar cr) :
  Calls Tryz.prog 99 #[.slice ab ob.toList.length cb,.slice al 1 cl,.slice ar 1 cr] w (MergedO ob (some l) (some r) X w):=by
 have HX:=lH hX;have HBO:=lH hb;have HLO:=lH hl;have HRO:=lH hr;have HO:=lH (CBox.new w 69 dZ);have hq:=qalloc w (.cells dZ 69);clear hX hb hl hr;obtain ⟨b9,hb9⟩:∃ b9,ob.getD oldD = b9:=⟨_,rfl⟩;have HB9:=lH hb9;clear hb9
 go_enter Tryz.func99,Tryz.ntmps99
 go_upto_region 4 with (fail)
 generalize World.alloc w _ = W0 at *
 have hXh:Hid (∀ k,k∈w.heap.size :: X→k < W0.heap.size):=fun k hk => by
  rcases List.mem_cons.1 hk with rfl | hk
  ·exact HO.out.lt
  ·exact Nat.lt_of_lt_of_le (HX.out k hk) hq.size
 have HOL:=lH (old_in W0 (w.heap.size :: X) hXh.out);obtain ⟨S1,hS1⟩:∃ S1,W0.heap.size = S1:=⟨_,rfl⟩;have hq1:=qalloc W0 (.cells #[.string ⟨#[]⟩] 9);have hsz1:(W0.alloc (.cells #[.string ⟨#[]⟩] 9)).heap.size = S1 + 1:=by rw [World.size_alloc,hS1]
 rw [hS1] at HOL;have hwS:w.heap.size < S1:=by rw [← hS1];exact HO.out.lt
 have hq2:=qalloc (W0.alloc (.cells #[.string ⟨#[]⟩] 9)) (.cells #[.int .i64 0,.int .i64 0,.bool false,.slice (some ⟨S1,0,none⟩) 1 1,.bool false,.int .i64 11,.string ⟨#[]⟩,.string ⟨#[]⟩,.int .i64 0,.int .i64 0,.slice none 0 0] 69);have HN:=lH (CBox.new (W0.alloc (.cells #[.string ⟨#[]⟩] 9)) 69 #[.int .i64 0,.int .i64 0,.bool false,.slice (some ⟨S1,0,none⟩) 1 1,.bool false,.int .i64 11,.string ⟨#[]⟩,.string ⟨#[]⟩,.int .i64 0,.int .i64 0,.slice none 0 0]);rw [hsz1] at HN;have HOL2:=lH (HOL.out.below hq2);have HO1:=lH (HO.out.below (qtrans hq1 hq2))
 have HW1:=lH (qtrans hq (qtrans hq1 hq2));go_upto_region 5 with (fail)
 generalize (W0.alloc (.cells #[.string ⟨#[]⟩] 9)).alloc (.cells #[.int .i64 0,.int .i64 0,.bool false,.slice (some ⟨S1,0,none⟩) 1 1,.bool false,.int .i64 11,.string ⟨#[]⟩,.string ⟨#[]⟩,.int .i64 0,.int .i64 0,.slice none 0 0] 69) = W1 at *;generalize hO9:S1 + 1 = O9 at *;have hwO:Hid (w.heap.size < O9):=by show _ < _;omega
 clear hq hq1 hq2 hsz1 hS1 HOL HO hO9 hwS;go_upto_if 37 with (fail)
 go_cut [] from 38 to 40 (fun wx => ∃ anb9 cnb9 asb9 csb9,CBox wx O9 69 (dA b9 anb9 cnb9 asb9 csb9)∧DecX wx (w.heap.size :: X) b9 anb9 cnb9 asb9 csb9∧CBox wx w.heap.size 69 dZ∧Bw w wx)
 case first =>
  cases ob with
  | none =>
   obtain rfl:oldD = b9:=HB9.out;simp only [Option.toList_none,List.length_nil]
   go_wp2;go_meet
   case rel => exact ⟨_,_,_,_,HN.out,HOL2.out,HO1.out,HW1.out⟩
  | some x =>
   obtain rfl:x = b9:=HB9.out;have hbr:Reads W1 (O9 :: w.heap.size :: X) (declsT [x]) (.slice ab 1 cb):=(((HBO.out.more (k:=w.heap.size) (Nat.le_refl _)).more (k:=O9) (Nat.le_of_lt hwO.out)).below HW1.out).rd;obtain ⟨bb,bo,anx,cnx,asx,csx,rfl,hbb,hbc,hdb⟩:=one_decl hbr;have HDB:=lH hdb;simp only [Option.toList_some,List.length_cons,List.length_nil,Nat.zero_add]
   have c0:=hbc 0 (.int .i64 x.id) rfl;have c1:=hbc 1 (.int .i64 x.kind) rfl;have c2:=hbc 2 (.bool x.pub) rfl;have c3:=hbc 3 (.slice anx x.names.length cnx) rfl;have c4:=hbc 4 (.bool x.doubt) rfl;have c5:=hbc 5 (.int .i64 x.body.kind) rfl;have c6:=hbc 6 (.string x.body.name) rfl;have c7:=hbc 7 (.string x.body.more) rfl;have c8:=hbc 8 (.int .i64 x.body.num) rfl;have c9:=hbc 9 (.int .i64 x.body.den) rfl;have c10:=hbc 10 (.slice asx x.body.subs.length csx) rfl;rw [Nat.add_zero] at c0;clear hbr hbc hdb
   obtain ⟨m0,m1,m2,m3,m4,m5,m6,m7,m8,m9,m10,ml9⟩:=cells11 HN.out;obtain ⟨fm0,fm1,fm2,fm3,fm4,fm5,fm6,fm7,fm8,fm9,fm10⟩:=frozen11 HN.out;go_wp2;clear ml9 m0 fm0 m1 fm1 m2 fm2 m3 fm3 m4 fm4 m5 fm5 m6 fm6 m7 fm7 m8 fm8 m9 fm9 m10 fm10 c0 c1 c2 c3 c4 c5 c6 c7 c8 c9 c10;obtain ⟨HC9,HM9⟩:=CBox.putD (HN.out) x anx cnx asx csx;generalize World.setCell _ ⟨O9,10,none⟩ _ = WZ at *;go_meet
   case rel => exact ⟨_,_,_,_,HC9,(HDB.out.mod (HM9.mono inC)).fewer inT,HO1.out.mod HM9 (by have:=hwO.out;simp;omega),HW1.out.trans (HM9.upto HW1.out.size (by intro k hk;have:=hwO.out;simp at hk;omega))⟩
 case rest =>
 obtain ⟨anb9,cnb9,asb9,csb9,hn2,hd2,ho2,hw2⟩:=hcut;generalize wc = W2 at *;have HN2:=lH hn2;have HD2:=lH hd2;have HO2:=lH ho2;have HW2:=lH hw2;clear hn2 hd2 ho2 hw2 HN HOL2 HO1 HW1
 have HB9S:Hid (SmD b9∧nodesN b9.body≤1000000):=by
  show _∧_
  have:=HB9.out
  cases ob with
  | none => rw [← this];exact old_sm
  | some x => rw [← this];exact HBO.out.sm x rfl
 have hlr:Reads W2 (w.heap.size :: X) (declsT [l]) (.slice al 1 cl):=((HLO.out.more (k:=w.heap.size) (Nat.le_refl _)).below HW2.out).rd;have hrr:Reads W2 (w.heap.size :: X) (declsT [r]) (.slice ar 1 cr):=((HRO.out.more (k:=w.heap.size) (Nat.le_refl _)).below HW2.out).rd;obtain ⟨lb,lo,anl,cnl,asl,csl,rfl,hlb,hlc,hdl⟩:=one_decl hlr;obtain ⟨rb,ro,anr,cnr,asr,csr,rfl,hrb,hrc,hdr⟩:=one_decl hrr;have hsl:=HLO.out.sm l rfl;have hsr:=HRO.out.sm r rfl
 have hX2:∀ k,k∈w.heap.size :: X→k < W2.heap.size:=fun k hk => by
  rcases List.mem_cons.1 hk with rfl | hk
  ·exact HO2.out.lt
  ·exact Nat.lt_of_lt_of_le (HX.out k hk) HW2.out.size
 have HMB:=lH (fun W (h:Bw W2 W) => mergeBoth_any b9 l r anb9 anl anr asb9 asl asr cnb9 cnl cnr csb9 csl csr (w.heap.size :: X) W (fun k hk => Nat.lt_of_lt_of_le (hX2 k hk) h.size) (HD2.out.below h) (hdl.below h) (hdr.below h) HB9S.out.1 hsl.1 hsr.1 HB9S.out.2 hsl.2 hsr.2)
 have HMBN:=lH (fun W (N:Nat) (h:Bw W2 W) (hN:W2.heap.size≤N) (hN2:N < W.heap.size) => mergeBoth_any b9 l r anb9 anl anr asb9 asl asr cnb9 cnl cnr csb9 csl csr (N :: w.heap.size :: X) W (fun k hk => by rcases List.mem_cons.1 hk with rfl | hk;exact hN2;exact Nat.lt_of_lt_of_le (hX2 k hk) h.size) ((HD2.out.more hN).below h) ((hdl.more hN).below h) ((hdr.more hN).below h) HB9S.out.1 hsl.1 hsr.1 HB9S.out.2 hsl.2 hsr.2);unfold declV at HMB HMBN;have m0:=HN2.out.cell (i:=0) (v:=.int .i64 b9.id) rfl;have c0:=hlc 0 (.int .i64 l.id) rfl;have d0:=hrc 0 (.int .i64 r.id) rfl
 have m1:=HN2.out.cell (i:=1) (v:=.int .i64 b9.kind) rfl;have c1:=hlc 1 (.int .i64 l.kind) rfl;have d1:=hrc 1 (.int .i64 r.kind) rfl;have m2:=HN2.out.cell (i:=2) (v:=.bool b9.pub) rfl;have c2:=hlc 2 (.bool l.pub) rfl;have d2:=hrc 2 (.bool r.pub) rfl;have m3:=HN2.out.cell (i:=3) (v:=.slice anb9 b9.names.length cnb9) rfl;have c3:=hlc 3 (.slice anl l.names.length cnl) rfl;have d3:=hrc 3 (.slice anr r.names.length cnr) rfl;have m4:=HN2.out.cell (i:=4) (v:=.bool b9.doubt) rfl;have c4:=hlc 4 (.bool l.doubt) rfl;have d4:=hrc 4 (.bool r.doubt) rfl
 have m5:=HN2.out.cell (i:=5) (v:=.int .i64 b9.body.kind) rfl;have c5:=hlc 5 (.int .i64 l.body.kind) rfl;have d5:=hrc 5 (.int .i64 r.body.kind) rfl;have m6:=HN2.out.cell (i:=6) (v:=.string b9.body.name) rfl;have c6:=hlc 6 (.string l.body.name) rfl;have d6:=hrc 6 (.string r.body.name) rfl;have m7:=HN2.out.cell (i:=7) (v:=.string b9.body.more) rfl;have c7:=hlc 7 (.string l.body.more) rfl;have d7:=hrc 7 (.string r.body.more) rfl;have m8:=HN2.out.cell (i:=8) (v:=.int .i64 b9.body.num) rfl;have c8:=hlc 8 (.int .i64 l.body.num) rfl
 have d8:=hrc 8 (.int .i64 r.body.num) rfl;have m9:=HN2.out.cell (i:=9) (v:=.int .i64 b9.body.den) rfl;have c9:=hlc 9 (.int .i64 l.body.den) rfl;have d9:=hrc 9 (.int .i64 r.body.den) rfl;have m10:=HN2.out.cell (i:=10) (v:=.slice asb9 b9.body.subs.length csb9) rfl;have c10:=hlc 10 (.slice asl l.body.subs.length csl) rfl;have d10:=hrc 10 (.slice asr r.body.subs.length csr) rfl;rw [Nat.add_zero] at c0 d0;have ml9:=HN2.out.lt
 have SW:Hid (∀ W:World,Bw W2 W→(W.cell? ⟨O9,0,none⟩ = some (.int .i64 b9.id)∧W.cell? ⟨O9,1,none⟩ = some (.int .i64 b9.kind)∧W.cell? ⟨O9,2,none⟩ = some (.bool b9.pub)∧W.cell? ⟨O9,3,none⟩ = some (.slice anb9 b9.names.length cnb9)∧W.cell? ⟨O9,4,none⟩ = some (.bool b9.doubt)∧W.cell? ⟨O9,5,none⟩ = some (.int .i64 b9.body.kind)∧W.cell? ⟨O9,6,none⟩ = some (.string b9.body.name)∧W.cell? ⟨O9,7,none⟩ = some (.string b9.body.more)∧W.cell? ⟨O9,8,none⟩ = some (.int .i64 b9.body.num)∧W.cell? ⟨O9,9,none⟩ = some (.int .i64 b9.body.den)∧W.cell? ⟨O9,10,none⟩ = some (.slice asb9 b9.body.subs.length csb9)∧W.cell? ⟨lb,lo,none⟩ = some (.int .i64 l.id)∧W.cell? ⟨lb,lo + 1,none⟩ = some (.int .i64 l.kind)∧W.cell? ⟨lb,lo + 2,none⟩ = some (.bool l.pub)∧W.cell? ⟨lb,lo + 3,none⟩ = some (.slice anl l.names.length cnl)∧W.cell? ⟨lb,lo + 4,none⟩ = some (.bool l.doubt)∧W.cell? ⟨lb,lo + 5,none⟩ = some (.int .i64 l.body.kind)∧W.cell? ⟨lb,lo + 6,none⟩ = some (.string l.body.name)∧W.cell? ⟨lb,lo + 7,none⟩ = some (.string l.body.more)∧W.cell? ⟨lb,lo + 8,none⟩ = some (.int .i64 l.body.num)∧W.cell? ⟨lb,lo + 9,none⟩ = some (.int .i64 l.body.den)∧W.cell? ⟨lb,lo + 10,none⟩ = some (.slice asl l.body.subs.length csl)∧W.cell? ⟨rb,ro,none⟩ = some (.int .i64 r.id)∧W.cell? ⟨rb,ro + 1,none⟩ = some (.int .i64 r.kind)∧W.cell? ⟨rb,ro + 2,none⟩ = some (.bool r.pub)∧W.cell? ⟨rb,ro + 3,none⟩ = some (.slice anr r.names.length cnr)∧W.cell? ⟨rb,ro + 4,none⟩ = some (.bool r.doubt)∧W.cell? ⟨rb,ro + 5,none⟩ = some (.int .i64 r.body.kind)∧W.cell? ⟨rb,ro + 6,none⟩ = some (.string r.body.name)∧W.cell? ⟨rb,ro + 7,none⟩ = some (.string r.body.more)∧W.cell? ⟨rb,ro + 8,none⟩ = some (.int .i64 r.body.num)∧W.cell? ⟨rb,ro + 9,none⟩ = some (.int .i64 r.body.den)∧W.cell? ⟨rb,ro + 10,none⟩ = some (.slice asr r.body.subs.length csr)∧O9 < W.heap.size∧lb < W.heap.size∧rb < W.heap.size)):=lH (fun W hW => ⟨(hW.cell (p:=⟨O9,_,none⟩) ml9).trans m0,(hW.cell (p:=⟨O9,_,none⟩) ml9).trans m1,(hW.cell (p:=⟨O9,_,none⟩) ml9).trans m2,(hW.cell (p:=⟨O9,_,none⟩) ml9).trans m3,(hW.cell (p:=⟨O9,_,none⟩) ml9).trans m4,(hW.cell (p:=⟨O9,_,none⟩) ml9).trans m5,(hW.cell (p:=⟨O9,_,none⟩) ml9).trans m6,(hW.cell (p:=⟨O9,_,none⟩) ml9).trans m7,(hW.cell (p:=⟨O9,_,none⟩) ml9).trans m8,(hW.cell (p:=⟨O9,_,none⟩) ml9).trans m9,(hW.cell (p:=⟨O9,_,none⟩) ml9).trans m10,(hW.cell (p:=⟨lb,_,none⟩) hlb).trans c0,(hW.cell (p:=⟨lb,_,none⟩) hlb).trans c1,(hW.cell (p:=⟨lb,_,none⟩) hlb).trans c2,(hW.cell (p:=⟨lb,_,none⟩) hlb).trans c3,(hW.cell (p:=⟨lb,_,none⟩) hlb).trans c4,(hW.cell (p:=⟨lb,_,none⟩) hlb).trans c5,(hW.cell (p:=⟨lb,_,none⟩) hlb).trans c6,(hW.cell (p:=⟨lb,_,none⟩) hlb).trans c7,(hW.cell (p:=⟨lb,_,none⟩) hlb).trans c8,(hW.cell (p:=⟨lb,_,none⟩) hlb).trans c9,(hW.cell (p:=⟨lb,_,none⟩) hlb).trans c10,(hW.cell (p:=⟨rb,_,none⟩) hrb).trans d0,(hW.cell (p:=⟨rb,_,none⟩) hrb).trans d1,(hW.cell (p:=⟨rb,_,none⟩) hrb).trans d2,(hW.cell (p:=⟨rb,_,none⟩) hrb).trans d3,(hW.cell (p:=⟨rb,_,none⟩) hrb).trans d4,(hW.cell (p:=⟨rb,_,none⟩) hrb).trans d5,(hW.cell (p:=⟨rb,_,none⟩) hrb).trans d6,(hW.cell (p:=⟨rb,_,none⟩) hrb).trans d7,(hW.cell (p:=⟨rb,_,none⟩) hrb).trans d8,(hW.cell (p:=⟨rb,_,none⟩) hrb).trans d9,(hW.cell (p:=⟨rb,_,none⟩) hrb).trans d10,Nat.lt_of_lt_of_le ml9 hW.size,Nat.lt_of_lt_of_le hlb hW.size,Nat.lt_of_lt_of_le hrb hW.size⟩)
 clear hlr hrr hlc hrc hdl hdr hsl hsr hX2 hlb hrb ml9 m0 c0 d0 m1 c1 d1 m2 c2 d2 m3 c3 d3 m4 c4 d4 m5 c5 d5 m6 c6 d6 m7 c7 d7 m8 c8 d8 m9 c9 d9 m10 c10 d10;have hb0:Bw W2 W2.drew:=(Mod.refl [] W2).drew.below;go_upto_region 7 with (fail)
 obtain ⟨q,hq⟩:∃ q,bothErr b9 l r = q:=⟨_,rfl⟩;obtain ⟨D,hD⟩:∃ D,bothOut b9 l r = D:=⟨_,rfl⟩;have HQ:=lH hq;have HDD:=lH hD
 replace HMB:Hid (∀ W,Bw W2 W→Calls Tryz.prog 162 #[.agg #[.int .i64 b9.id,.int .i64 b9.kind,.bool b9.pub,.slice anb9 b9.names.length cnb9,.bool b9.doubt,.int .i64 b9.body.kind,.string b9.body.name,.string b9.body.more,.int .i64 b9.body.num,.int .i64 b9.body.den,.slice asb9 b9.body.subs.length csb9],.agg #[.int .i64 l.id,.int .i64 l.kind,.bool l.pub,.slice anl l.names.length cnl,.bool l.doubt,.int .i64 l.body.kind,.string l.body.name,.string l.body.more,.int .i64 l.body.num,.int .i64 l.body.den,.slice asl l.body.subs.length csl],.agg #[.int .i64 r.id,.int .i64 r.kind,.bool r.pub,.slice anr r.names.length cnr,.bool r.doubt,.int .i64 r.body.kind,.string r.body.name,.string r.body.more,.int .i64 r.body.num,.int .i64 r.body.den,.slice asr r.body.subs.length csr]] W fun e w9 => ∃ anD cnD asD csD,e = .returned (.tuple #[.agg #[.int .i64 D.id,.int .i64 D.kind,.bool D.pub,.slice anD D.names.length cnD,.bool D.doubt,.int .i64 D.body.kind,.string D.body.name,.string D.body.more,.int .i64 D.body.num,.int .i64 D.body.den,.slice asD D.body.subs.length csD],.int .i64 q])∧DecX w9 (w.heap.size :: X) D anD cnD asD csD∧Bw W w9):=fun W h => (HMB.out W h).mono (fun e w9 ⟨⟨a1,a2,a3,a4,h1,h2,h3⟩⟩ => ⟨a1,a2,a3,a4,by rw [h1,hq,hD];rfl,by rw [← hD];exact h2,h3⟩)
 replace HMBN:Hid (∀ W N,Bw W2 W→W2.heap.size≤N→N < W.heap.size→Calls Tryz.prog 162 #[.agg #[.int .i64 b9.id,.int .i64 b9.kind,.bool b9.pub,.slice anb9 b9.names.length cnb9,.bool b9.doubt,.int .i64 b9.body.kind,.string b9.body.name,.string b9.body.more,.int .i64 b9.body.num,.int .i64 b9.body.den,.slice asb9 b9.body.subs.length csb9],.agg #[.int .i64 l.id,.int .i64 l.kind,.bool l.pub,.slice anl l.names.length cnl,.bool l.doubt,.int .i64 l.body.kind,.string l.body.name,.string l.body.more,.int .i64 l.body.num,.int .i64 l.body.den,.slice asl l.body.subs.length csl],.agg #[.int .i64 r.id,.int .i64 r.kind,.bool r.pub,.slice anr r.names.length cnr,.bool r.doubt,.int .i64 r.body.kind,.string r.body.name,.string r.body.more,.int .i64 r.body.num,.int .i64 r.body.den,.slice asr r.body.subs.length csr]] W fun e w9 => ∃ anD cnD asD csD,e = .returned (.tuple #[.agg #[.int .i64 D.id,.int .i64 D.kind,.bool D.pub,.slice anD D.names.length cnD,.bool D.doubt,.int .i64 D.body.kind,.string D.body.name,.string D.body.more,.int .i64 D.body.num,.int .i64 D.body.den,.slice asD D.body.subs.length csD],.int .i64 q])∧DecX w9 (N :: w.heap.size :: X) D anD cnD asD csD∧Bw W w9):=fun W N h h1 h2 => (HMBN.out W N h h1 h2).mono (fun e w9 ⟨⟨a1,a2,a3,a4,g1,g2,g3⟩⟩ => ⟨a1,a2,a3,a4,by rw [g1,hq,hD];rfl,by rw [← hD];exact g2,g3⟩)
 clear hq hD
 go_cut [10,11] from 41 to 51 (fun u v wx => ∃ N anD cnD asD csD,u = .pointer (some ⟨N,0,none⟩)∧v = .int .i64 q∧CBox wx N 69 (dA D anD cnD asD csD)∧DecX wx (w.heap.size :: X) D anD cnD asD csD∧Bw W2 wx)
 case first =>
  refine wp_region_noPanic (region_planT (fun W:World => W.cell? ⟨O9,0,none⟩ = some (.int .i64 b9.id)∧W.cell? ⟨O9,1,none⟩ = some (.int .i64 b9.kind)∧W.cell? ⟨O9,2,none⟩ = some (.bool b9.pub)∧W.cell? ⟨O9,3,none⟩ = some (.slice anb9 b9.names.length cnb9)∧W.cell? ⟨O9,4,none⟩ = some (.bool b9.doubt)∧W.cell? ⟨O9,5,none⟩ = some (.int .i64 b9.body.kind)∧W.cell? ⟨O9,6,none⟩ = some (.string b9.body.name)∧W.cell? ⟨O9,7,none⟩ = some (.string b9.body.more)∧W.cell? ⟨O9,8,none⟩ = some (.int .i64 b9.body.num)∧W.cell? ⟨O9,9,none⟩ = some (.int .i64 b9.body.den)∧W.cell? ⟨O9,10,none⟩ = some (.slice asb9 b9.body.subs.length csb9)∧W.cell? ⟨lb,lo,none⟩ = some (.int .i64 l.id)∧W.cell? ⟨lb,lo + 1,none⟩ = some (.int .i64 l.kind)∧W.cell? ⟨lb,lo + 2,none⟩ = some (.bool l.pub)∧W.cell? ⟨lb,lo + 3,none⟩ = some (.slice anl l.names.length cnl)∧W.cell? ⟨lb,lo + 4,none⟩ = some (.bool l.doubt)∧W.cell? ⟨lb,lo + 5,none⟩ = some (.int .i64 l.body.kind)∧W.cell? ⟨lb,lo + 6,none⟩ = some (.string l.body.name)∧W.cell? ⟨lb,lo + 7,none⟩ = some (.string l.body.more)∧W.cell? ⟨lb,lo + 8,none⟩ = some (.int .i64 l.body.num)∧W.cell? ⟨lb,lo + 9,none⟩ = some (.int .i64 l.body.den)∧W.cell? ⟨lb,lo + 10,none⟩ = some (.slice asl l.body.subs.length csl)∧W.cell? ⟨rb,ro,none⟩ = some (.int .i64 r.id)∧W.cell? ⟨rb,ro + 1,none⟩ = some (.int .i64 r.kind)∧W.cell? ⟨rb,ro + 2,none⟩ = some (.bool r.pub)∧W.cell? ⟨rb,ro + 3,none⟩ = some (.slice anr r.names.length cnr)∧W.cell? ⟨rb,ro + 4,none⟩ = some (.bool r.doubt)∧W.cell? ⟨rb,ro + 5,none⟩ = some (.int .i64 r.body.kind)∧W.cell? ⟨rb,ro + 6,none⟩ = some (.string r.body.name)∧W.cell? ⟨rb,ro + 7,none⟩ = some (.string r.body.more)∧W.cell? ⟨rb,ro + 8,none⟩ = some (.int .i64 r.body.num)∧W.cell? ⟨rb,ro + 9,none⟩ = some (.int .i64 r.body.den)∧W.cell? ⟨rb,ro + 10,none⟩ = some (.slice asr r.body.subs.length csr)∧O9 < W.heap.size∧lb < W.heap.size∧rb < W.heap.size) (.take 0 (.take 1 (.take 2 (.take 3 (.take 4 (.take 5 (.take 6 (.two 7 11 (.take 8 (.take 9 (.take 10 (.one 11 (.one 12 (.one 13 .done)))))) (.one 7 (.take 8 (.take 9 (.take 10 (.one 12 (.one 13 .done)))))))))))))) mixedK (by kernel_rfl) (fun _ _ _ _ _ h => h) (SW.out _ hb0) ?_)
  iterate 7 (refine planT_take (v:=?_) rfl (by rfl) ?_ ?_;rotate_left;(focus (intro wq hSw;(try dsimp only at hSw);go_simp;(try rw [if_neg (by first | omega | (simp;omega))]);(try with_reducible rfl)));(try simp only [gA,gB,gC,Act.put,gD,gE,gF]))
  generalize W2.drew = v0 at *;refine planT_two ?_ ?_
  ·skip
   refine planT_one rfl (by rfl) (fun K hK => ?_);go_simp;refine (HMB.out _ hb0).mono ?_;rintro r1 v1 ⟨anD,cnD,asD,csD,rfl,hdx,hq1⟩
   (try go_simp)
   have hb1:=qtrans hb0 hq1;refine hK.out _ _ (SW.out _ hb1) ?_;clear hK K;(try simp only [gA,gB,gC,Act.put,gD,gE,gF])
   iterate 3 (refine planT_take (v:=?_) rfl (by rfl) ?_ ?_;rotate_left;(focus (intro wq hSw;(try dsimp only at hSw);go_simp;(try rw [if_neg (by first | omega | (simp;omega))]);(try with_reducible rfl)));(try simp only [gA,gB,gC,Act.put,gD,gE,gF]))
   have ax:=CBox.new v1 69 dZ;have hbx:=qtrans hb1 (qalloc v1 (.cells dZ 69));have hdx:=(hdx.more (Nat.le_refl v1.heap.size)).below (qalloc v1 (.cells dZ 69));have hN2:W2.heap.size≤v1.heap.size:=hb1.size;refine planT_one rfl (by rfl) (fun K hK => ?_);go_simp;refine hK.out _ _ (SW.out _ hbx) ?_;clear hK K;(try simp only [gA,gB,gC,Act.put,gD,gE,gF]);generalize World.alloc v1 _ = v2 at *;generalize v1.heap.size = N at *;obtain ⟨z0,z1,z2,z3,z4,z5,z6,z7,z8,z9,z10,zl⟩:=cells11 ax
   obtain ⟨fz0,fz1,fz2,fz3,fz4,fz5,fz6,fz7,fz8,fz9,fz10⟩:=frozen11 ax;obtain ⟨HC9,HM9⟩:=CBox.putD ax D anD cnD asD csD
   have hbz:Bw W2 (((((((((((v2.setCell ⟨N,0,none⟩ (.int .i64 D.id)).setCell ⟨N,1,none⟩ (.int .i64 D.kind)).setCell ⟨N,2,none⟩ (.bool D.pub)).setCell ⟨N,3,none⟩ (.slice anD D.names.length cnD)).setCell ⟨N,4,none⟩ (.bool D.doubt)).setCell ⟨N,5,none⟩ (.int .i64 D.body.kind)).setCell ⟨N,6,none⟩ (.string D.body.name)).setCell ⟨N,7,none⟩ (.string D.body.more)).setCell ⟨N,8,none⟩ (.int .i64 D.body.num)).setCell ⟨N,9,none⟩ (.int .i64 D.body.den)).setCell ⟨N,10,none⟩ (.slice asD D.body.subs.length csD)):=hbx.trans (HM9.upto hbx.size (by intro k hk;simp at hk;omega))
   have hdz:=(hdx.mod (HM9.mono inC)).fewer inT;refine planT_one rfl (by rfl) (fun K hK => ?_);go_simp;refine hK.out _ _ (SW.out _ hbz) ?_;clear hK K;(try simp only [gA,gB,gC,Act.put,gD,gE,gF]);generalize World.setCell _ ⟨N,10,none⟩ _ = vz at *;clear zl z0 fz0 z1 fz1 z2 fz2 z3 fz3 z4 fz4 z5 fz5 z6 fz6 z7 fz7 z8 fz8 z9 fz9 z10 fz10;refine planT_one rfl (by rfl) (fun K hK => ?_);go_simp;refine hK.out _ _ (SW.out _ hbz) ?_;clear hK K;(try simp only [gA,gB,gC,Act.put,gD,gE,gF]);refine planT_done ?_;refine NoPanic.normal ?_;go_wp2;go_meet
   case rel => exact ⟨N,anD,cnD,asD,csD,rfl,rfl,HC9,hdz,hbz⟩
  ·skip
   have ax:=CBox.new v0 69 dZ;have hb1:=qtrans hb0 (qalloc v0 (.cells dZ 69));have hN2:W2.heap.size≤v0.heap.size:=hb0.size;have hNl:v0.heap.size < (v0.alloc (.cells dZ 69)).heap.size:=ax.lt;refine planT_one rfl (by rfl) (fun K hK => ?_);go_simp;refine hK.out _ _ (SW.out _ hb1) ?_;clear hK K;(try simp only [gA,gB,gC,Act.put,gD,gE,gF]);generalize hv1:v0.alloc (.cells dZ 69) = v1 at *;generalize v0.heap.size = N at *;clear hv1;refine planT_one rfl (by rfl) (fun K hK => ?_);go_simp;refine (HMBN.out _ N hb1 hN2 hNl).mono ?_
   rintro r1 v2 ⟨anD,cnD,asD,csD,rfl,hdx,hq1⟩
   (try go_simp)
   have hbx:=qtrans hb1 hq1;refine hK.out _ _ (SW.out _ hbx) ?_;clear hK K;(try simp only [gA,gB,gC,Act.put,gD,gE,gF])
   iterate 3 (refine planT_take (v:=?_) rfl (by rfl) ?_ ?_;rotate_left;(focus (intro wq hSw;(try dsimp only at hSw);go_simp;(try rw [if_neg (by first | omega | (simp;omega))]);(try with_reducible rfl)));(try simp only [gA,gB,gC,Act.put,gD,gE,gF]))
   have ax:=ax.below hq1;obtain ⟨z0,z1,z2,z3,z4,z5,z6,z7,z8,z9,z10,zl⟩:=cells11 ax;obtain ⟨fz0,fz1,fz2,fz3,fz4,fz5,fz6,fz7,fz8,fz9,fz10⟩:=frozen11 ax;obtain ⟨HC9,HM9⟩:=CBox.putD ax D anD cnD asD csD
   have hbz:Bw W2 (((((((((((v2.setCell ⟨N,0,none⟩ (.int .i64 D.id)).setCell ⟨N,1,none⟩ (.int .i64 D.kind)).setCell ⟨N,2,none⟩ (.bool D.pub)).setCell ⟨N,3,none⟩ (.slice anD D.names.length cnD)).setCell ⟨N,4,none⟩ (.bool D.doubt)).setCell ⟨N,5,none⟩ (.int .i64 D.body.kind)).setCell ⟨N,6,none⟩ (.string D.body.name)).setCell ⟨N,7,none⟩ (.string D.body.more)).setCell ⟨N,8,none⟩ (.int .i64 D.body.num)).setCell ⟨N,9,none⟩ (.int .i64 D.body.den)).setCell ⟨N,10,none⟩ (.slice asD D.body.subs.length csD)):=hbx.trans (HM9.upto hbx.size (by intro k hk;simp at hk;omega))
   have hdz:=(hdx.mod (HM9.mono inC)).fewer inT;refine planT_one rfl (by rfl) (fun K hK => ?_);go_simp;refine hK.out _ _ (SW.out _ hbz) ?_;clear hK K;(try simp only [gA,gB,gC,Act.put,gD,gE,gF]);generalize World.setCell _ ⟨N,10,none⟩ _ = vz at *;clear zl z0 fz0 z1 fz1 z2 fz2 z3 fz3 z4 fz4 z5 fz5 z6 fz6 z7 fz7 z8 fz8 z9 fz9 z10 fz10;refine planT_one rfl (by rfl) (fun K hK => ?_);go_simp;refine hK.out _ _ (SW.out _ hbz) ?_;clear hK K;(try simp only [gA,gB,gC,Act.put,gD,gE,gF]);refine planT_done ?_;refine NoPanic.normal ?_;go_wp2;go_meet
   case rel => exact ⟨N,anD,cnD,asD,csD,rfl,rfl,HC9,hdz,hbz⟩
 case rest =>
 obtain ⟨N,anD,cnD,asD,csD,rfl,rfl,hn3,hd3,hb3⟩:=hcut;generalize wc = W3 at *;have HN3:=lH hn3;have HD3:=lH hd3;have HO3:=lH (HO2.out.below hb3);have HW3:Hid (Bw w W3):=HW2.out.trans (hb3.mono HW2.out.size);clear hn3 hd3 hb3 SW HMB HMBN hb0 HN2 HD2 HO2 HW2;have HEQ:Hid (mergeDErr ob (some l) (some r) = q):=by show bothErr _ _ _ = q;rw [HB9.out];exact HQ.out
 have HOU:Hid (mOut ob (some l) (some r) = D):=by
  show _ = _
  rw [← HDD.out];unfold mOut bothOut;rw [HEQ.out,HQ.out];show (if q = 0 then bothM (ob.getD oldD) l r else noDecl) = _
  rw [HB9.out]
 have HHA:Hid (mHas ob (some l) (some r) = (q == 0)):=by
  show _ = _
  unfold mHas;rw [HEQ.out];show (decide (q = 0) && true) = _
  rw [Bool.and_true]
  by_cases h:q = 0 <;> simp [h]
 obtain ⟨n0,n1,n2,n3,n4,n5,n6,n7,n8,n9,n10,nl9⟩:=cells11 HN3.out;obtain ⟨o0,o1,o2,o3,o4,o5,o6,o7,o8,o9,o10,ol9⟩:=cells11 HO3.out;obtain ⟨fo0,fo1,fo2,fo3,fo4,fo5,fo6,fo7,fo8,fo9,fo10⟩:=frozen11 HO3.out;go_wp2;clear o0 fo0 o1 fo1 o2 fo2 o3 fo3 o4 fo4 o5 fo5 o6 fo6 o7 fo7 o8 fo8 o9 fo9 o10 fo10 ol9 nl9 n0 n1 n2 n3 n4 n5 n6 n7 n8 n9 n10;obtain ⟨HC9,HM9⟩:=CBox.putD (HO3.out) D anD cnD asD csD;generalize World.setCell _ ⟨w.heap.size,10,none⟩ _ = WZ at *;obtain ⟨r0,r1,r2,r3,r4,r5,r6,r7,r8,r9,r10,-⟩:=cells11 HC9
 refine bodyPost_ret (by simp [results,Tryz.results99,go_sem,r0,r1,r2,r3,r4,r5,r6,r7,r8,r9,r10];try rfl) rfl ?_;have hdZ:Bw w WZ:=HW3.out.trans (HM9.upto HW3.out.size (by intro k hk;simp at hk;omega));have hdx9:=(HD3.out.mod (HM9.mono inC)).fewer inT;refine ⟨anD,cnD,asD,csD,?_,?_,hdZ⟩
 ·rw [HOU.out,HHA.out,HEQ.out];rfl
 ·rw [HOU.out];exact hdx9
end Go.Proofs.YtdpnfkjafhbndaaGreatDoor

