/- Reference 34: -/
import Derived.Test.YtfkjfdbjhlmjcaaGreatDoorDCA
set_option maxRecDepth 100000
set_option maxHeartbeats 16000000
namespace Go.Proofs.YtfkjfdbjhlmjcaaGreatDoor
open Go.RowKit Go.Shelf
attribute [local go_sem] Oper.semAt_some
theorem zLu (l:List OMod) (a:Option Addr) (c:Nat) (s:ByteArray) (w:World) (hr:Reads w [] (modsT l) (.slice a l.length c)) (ha:Asc ltB OMod.label l) (hn:l.length≤1000000) :
  Calls Tryz.prog 43 #[.slice a l.length c,.string s] w fun e w'=>e=.returned (.tuple #[.int .i64 (plc ltB OMod.label l s:Nat),.bool (look ltB OMod.label l s).isSome])∧Bw w w':=by
 have HS:=lH (zOe zD ha s);have HR:=lH hr;have hp:=HS.o.le;clear hr ha;generalize plc ltB OMod.label l s=p at *;generalize (look ltB OMod.label l s).isSome=f at *
 go_enter Tryz.func43,Tryz.ntmps43
 go_wp2
 go_loopw [6] (fun iv wr=>∃k:Nat,k≤p∧iv=.int .i64 k∧Bw w wr) (fun iv _=>l.length - (intOf iv).toNat)
 case atStart=>exact ⟨0,Nat.zero_le _,rfl,zAq _⟩
 case round=>
  obtain ⟨k,hkp,rfl,hb⟩:=hrel
  by_cases hk:k<l.length
  ·have hd:decide ((k:Int)<(l.length:Int))=true:=decide_eq_true (by omega)
   have hir:(k:Int)<(l.length:Int):=by omega
   obtain ⟨m,hmi⟩:∃m,l[k]?=some m:=⟨_,List.getElem?_eq_getElem hk⟩;obtain ⟨b,o,au,cu,ad,cd,rfl,hbl,c0,-,-,-⟩:=zBb (HR.o.below hb) hmi;have hbr:b<wr.heap.size:=hbl
   by_cases hkl:k<p
   ·have hlt:Op.bytesLess m.label.toList s.toList=true:=HS.o.lo k m hmi hkl
    clear hmi HS;go_wp2;go_roundw
    case rel=>exact ⟨k+1,by omega,by go_num,hb⟩
    case measure=>simp [intOf];omega
   ·obtain rfl:k=p:=by omega
    have hlt:Op.bytesLess m.label.toList s.toList=false:=HS.o.hi k m hmi (Nat.le_refl _)
    cases f with
    | true=>
     obtain ⟨y,hy,hyk⟩:=HS.o.yes rfl;rw [hmi] at hy
     cases hy
     have heq:(m.label.toList==s.toList)=true:=by rw [hyk];exact beq_self_eq_true _
     clear hmi HS hyk;go_wp2_with (fail)
     go_quiet (fail)
     go_wp2;go_ret2;exact ⟨rfl,below_drewN hb _⟩
    | false=>
     have heq:(m.label.toList==s.toList)=false:=zTe (HS.o.no rfl m hmi);clear hmi HS;go_wp2_with (fail)
     go_quiet (fail)
     go_wp2;go_ret2;exact ⟨rfl,below_drewN hb _⟩
  ·have hd:decide ((k:Int)<(l.length:Int))=false:=decide_eq_false (by omega)
   obtain rfl:k=p:=by omega
   have hf:f=false:=by
    cases hf:f with
    | false=>rfl
    | true=>obtain ⟨x,hx,_⟩:=HS.o.yes hf;rw [List.getElem?_eq_none (by omega)] at hx;cases hx
   subst hf;clear HS HR;go_wp2_with (fail)
   go_quiet (fail)
   go_wp2;go_ret2;exact ⟨rfl,below_drewN hb _⟩
theorem zJl (L:List OMod) (a:Option Addr) (c:Nat) (w:World) (hr:Reads w [] (modsT L) (.slice a L.length c)) (hs:∀m∈L,SmM m) (hn:L.length≤1000000) :
  Calls Tryz.prog 35 #[.slice a L.length c] w fun r w'=>r=.returned (.int .i64 (modsErr L))∧Bw w w':=by
 obtain ⟨T,hT⟩:∃T,modsErr L=T:=⟨_,rfl⟩
 have hE:T=if nzFrom (ordAt L) L.length 1=0 then testErr L else 10:=by
  rw [←hT];unfold modsErr
  rcases Nat.eq_zero_or_pos L.length with h|h
  ·rw [zBa (ordAt L) (n:=L.length) (k:=0) (by omega),zBa (ordAt L) (n:=L.length) (k:=1) (by omega)]
  ·rw [zBg (ordAt L) h,if_pos (show ordAt L 0=0 by unfold ordAt;rw [if_neg (fun c=>absurd c.1 (Nat.lt_irrefl 0))])]
 have HE:=lH hE;have HTT:=lH hT;have HR:=lH hr;have HSM:=lH hs;have HQ:Hid (testErr L=nzFrom (fun i=>modErr (mAt L i)) L.length 0):=rfl;clear hT hr hs hE;generalize testErr L=Q at *;generalize hf:ordAt L=f at *;have HFF:Hid (∀i,f i=ordAt L i):=fun i=>by rw [←hf]
 clear hf;generalize hg:(fun i=>modErr (mAt L i))=g at *;have HGG:Hid (∀i,g i=modErr (mAt L i)):=fun i=>by rw [←hg]
 clear hg
 go_enter Tryz.func35,Tryz.ntmps35
 go_wp2
 go_loopw [3] (fun iv wr=>∃j:Nat,j≤L.length∧iv=.int .i64 ((j:Int)+1)∧Hid (T=if nzFrom f L.length (j+1)=0 then Q else 10)∧Bw w wr) (fun iv _=>L.length+1 - (intOf iv).toNat)
 case atStart=>exact ⟨0,Nat.zero_le _,rfl,HE,zAq _⟩
 case round=>
  obtain ⟨j,hkl,rfl,HI,hb⟩:=hrel
  by_cases hi:j+1<L.length
  ·have hd:decide ((j:Int)+1<(L.length:Int))=true:=decide_eq_true (by omega)
   obtain ⟨m,hmi⟩:∃m,L[j+1]?=some m:=⟨_,List.getElem?_eq_getElem hi⟩;obtain ⟨p,hpj⟩:∃p,L[j]?=some p:=⟨_,List.getElem?_eq_getElem (by omega)⟩;have HN:=HI;rw [zBg f hi] at HN;have hfk:=HFF.o (j+1);unfold ordAt at hfk;rw [zEl hmi,Nat.add_sub_cancel,zEl hpj] at hfk;obtain ⟨b,o,au,cu,ad,cd,rfl,hbl,x0',-,-,-,-,-,-,-,-⟩:=zBb HR.o hmi;have hbr:b<wr.heap.size:=Nat.lt_of_lt_of_le hbl hb.size;have x0:=(hb.cell (p:=⟨b,_,none⟩) hbl).trans x0'
   obtain ⟨b',o',au',cu',ad',cd',e',-,y0',-,-,-,-,-,-,-,-⟩:=zBb HR.o hpj
   injection e' with e'
   injection e' with e1 e2
   subst e1 e2;have y0:=(hb.cell (p:=⟨b,_,none⟩) hbl).trans y0';clear x0' y0' HI;obtain ⟨q,hq⟩:∃q,ltB p.label m.label=q:=⟨_,rfl⟩;rw [hq] at hfk;have hw1:IntKind.i64.wrap ((j:Int)+1 - 1)=(j:Int):=by rw [Int.add_sub_cancel];exact IntWalk.i64_in _ (by omega)
   have hj1:(j:Int)<(L.length:Int):=by omega
   have hj2:(j:Int)+1<(L.length:Int):=by omega
   cases q with
   | true=>
    have hq':Op.bytesLess p.label.toList m.label.toList=true:=hq;rw [if_neg (by simp)] at hfk;rw [hfk,if_pos rfl] at HN;clear hfk hpj hmi hq;generalize p.label=t at *;generalize m.label=s at *;go_wp2_with (fail)
    go_quiet (fail)
    go_wp2;go_roundw
    case rel=>exact ⟨j+1,by omega,by go_num,HN,below_drewN hb _⟩
    case measure=>simp [intOf];omega
   | false=>
    rw [if_pos ⟨by omega,rfl⟩] at hfk;rw [hfk,if_neg (by rw [if_neg (by decide)];decide)] at HN;have hq':Op.bytesLess p.label.toList m.label.toList=false:=hq;clear hfk hpj hmi hq;generalize p.label=t at *;generalize m.label=s at *;go_wp2_with (fail)
    go_quiet (fail)
    go_wp2;go_ret;exact ⟨zAd (HN.o.symm.trans HTT.o.symm),below_drewN hb _⟩
  ·have hd:decide ((j:Int)+1<(L.length:Int))=false:=decide_eq_false (by omega)
   have HN:=HI;rw [zBa f (by omega),if_pos rfl,HQ.o] at HN;have HB:=lH hb;clear HI hi hkl hb HE;generalize wr=wq at *;go_wp2
   go_loopw [4] (fun iv wr=>∃k:Nat,k≤L.length∧iv=.int .i64 k∧Hid (T=nzFrom g L.length k)∧Bw w wr) (fun iv _=>L.length - (intOf iv).toNat)
   case atStart=>exact ⟨0,Nat.zero_le _,rfl,HN,HB.o⟩
   case round=>
    obtain ⟨k,hkl,rfl,HI,hb⟩:=hrel
    by_cases hi:k<L.length
    ·have hd:decide ((k:Int)<(L.length:Int))=true:=decide_eq_true (by omega)
     have hir:(k:Int)<(L.length:Int):=by omega
     obtain ⟨m,hmi⟩:∃m,L[k]?=some m:=⟨_,List.getElem?_eq_getElem hi⟩;obtain ⟨b,o,au,cu,ad,cd,rfl,hbl,x0',x1',x2',-,-,hru,-,-,hrd⟩:=zBb HR.o hmi;have hbr:b<wr.heap.size:=Nat.lt_of_lt_of_le hbl hb.size;have x0:=(hb.cell (p:=⟨b,_,none⟩) hbl).trans x0';have x1:=(hb.cell (p:=⟨b,_,none⟩) hbl).trans x1';have x2:=(hb.cell (p:=⟨b,_,none⟩) hbl).trans x2';have HN:=lH (HI.o.trans (zBg g hi))
     have HBC:=lH (zPp m au cu ad cd wr (zAf.1 (hru.out.below hb)).1 (hrd.out.below hb) (HSM.o m (List.mem_of_getElem? hmi)));have hfk:g k=modErr m:=by rw [HGG.o,zEl hmi]
     rw [hfk] at HN;clear x0' x1' x2' hru hrd HI hfk;unfold modV at HBC;generalize modErr m=q at *;go_wp2_with (fail)
     refine HBC.o.mono ?_;rintro r w4 ⟨rfl,hb4⟩;have hB4:=hb.trans (hb4.mono hb.size);clear HBC
     by_cases hq:q=0
     ·rw [if_pos hq] at HN
      have q3:(q != 0)=false:=by rw [hq];rfl
      clear hq;go_wp2;go_roundw
      case rel=>exact ⟨k+1,by omega,by go_num,HN,hB4⟩
      case measure=>simp [intOf];omega
     ·rw [if_neg hq] at HN
      have q3:(q != 0)=true:=by simp [hq]
      clear hq;go_wp2;go_ret;exact ⟨zAd (HN.o.symm.trans HTT.o.symm),hB4⟩
    ·have hd:decide ((k:Int)<(L.length:Int))=false:=decide_eq_false (by omega)
     have HN:=lH (HI.o.trans (zBa g (by omega)));go_wp2;go_ret;exact ⟨zAd (HN.o.symm.trans HTT.o.symm),hb⟩
theorem zVl {l:List ByteArray} {s:ByteArray} (h:Miss ltB id l s):withL l s=insAt l (plc ltB id l s) s:=by
 have e:placeW l s=plc ltB id l s:=rfl;unfold withL;rw [e,if_neg,List.append_assoc];rfl;rintro ⟨h1,h2⟩;refine h.elt _ (List.getElem?_eq_getElem h1) ?_;have:sAt l (plc ltB id l s)=l[plc ltB id l s]:=by unfold sAt;rw [List.getD_eq_getElem?_getD,List.getElem?_eq_getElem h1];rfl
 rw [this] at h2;exact zIo.1 (by unfold eqS;show (l[plc ltB id l s].toList==s.toList)=true;rw [h2];exact beq_self_eq_true _)
theorem yEm {W:World} {O:Nat} {T:TypeId} {a b c:Value} (h:CBox W O T #[a,b,c]) (x y z:Value):CBox (((W.setCell ⟨O,0,none⟩ x).setCell ⟨O,1,none⟩ y).setCell ⟨O,2,none⟩ z) O T #[x,y,z]:=((h.set 0 x).set 1 y).set 2 z
theorem yEn (W:World) (O:Nat) (x y z:Value):Mod [O] W (((W.setCell ⟨O,0,none⟩ x).setCell ⟨O,1,none⟩ y).setCell ⟨O,2,none⟩ z):=(((Mod.refl [O] W).setCell (by simp) _).setCell (by simp) _).setCell (by simp) _
end Go.Proofs.YtfkjfdbjhlmjcaaGreatDoor
namespace Go.Proofs.YtfkjfdbjhlmjcaaGreatDoor
open Go.RowKit Go.Shelf
theorem yBi {w:World} {a:Option Addr} {n c k sz:Nat} {xs:List Value} {a':Option Addr} (h:IsRow w sz (.slice a n c) n xs) (hk:k≤n) (ha:∀b o,k<n→a=some ⟨b,o,none⟩→a'=some ⟨b,o+k * sz,none⟩):IsRow w sz (.slice a' (n - k) (c - k)) (n - k) (xs.drop (k * sz)):=by
 obtain ⟨hl,a1,cap,e,h1,h2,h3⟩:=h
 injection e with e1 e2 e3
 subst e1 e3;refine ⟨by rw [List.length_drop,hl,Nat.sub_mul],_,_,rfl,by omega,by omega,fun h0=>?_⟩;obtain ⟨b,o,e,hb,hc⟩:=h3 (by omega);refine ⟨b,o+k * sz,ha b o (by omega) e,hb,fun j v hj=>?_⟩;rw [List.getElem?_drop] at hj;rw [Nat.add_assoc];exact hc _ v hj
theorem yDh {W:World} {B:Nat} {d:ODecl} {an:Option Addr} {cn:Nat} {sa:Option Addr} {cs:Nat} (h:CBox W B 62 (declL d an cn sa cs).toArray):IsRow W 11 (.slice (some ⟨B,0,none⟩) 1 1) 1 (declL d an cn sa cs):=by
 refine ⟨rfl,_,_,rfl,Nat.le_refl _,by unfold maxLen;omega,fun _=>⟨B,0,rfl,h.lt,fun j v hj=>?_⟩⟩;rw [Nat.zero_add];exact h.cell (by rw [List.getElem?_toArray];exact hj)
theorem zHh {w:World} {X:List Nat} {l:List ODecl} {a:Option Addr} {c:Nat} (h:Reads w X (declsT l) (.slice a l.length c)) {d:ODecl} (hl:l[0]?=some d) :
    ∃(b o:Nat) (an:Option Addr) (cn:Nat) (sa:Option Addr) (cs:Nat),a=some ⟨b,o,none⟩∧b<w.heap.size∧(∀(j:Nat) (u:Value),(declL d an cn sa cs)[j]?=some u→w.cell? ⟨b,o+j,none⟩=some u)∧ReadsL w X (declT d) (declL d an cn sa cs)∧DeclIn w d an cn sa cs∧Reads w X (strsT d.names) (.slice an d.names.length cn)∧Reads w X (subsT d.body.subs) (.slice sa d.body.subs.length cs):=by
  obtain ⟨b,o,an,cn,sa,cs,e,hb,hc,n1,n2,HN,s1,s2,HS⟩:=zBd h hl
  exact ⟨b,o,an,cn,sa,cs,e,hb,fun j u hj=>by have:=hc j u hj;rwa [Nat.zero_mul,Nat.add_zero] at this,zBo HN.o HS.o,⟨HN.o.fewer (by simp),HS.o.fewer (by simp),n1,n2,s1,s2⟩,HN.o,HS.o⟩
def blksF (R:List (Value×List OEdit)):List Nat:=R.flatMap fun q=>blk q.1
structure Fam (w0 w:World) (R:List (Value×List OEdit)):Prop where
  old:Below w0.heap.size w0 w
  rows:∀q∈R,∃xs,w.ownsRow w0.heap.size 39 5 q.1 q.2.length xs∧ReadsL w (blksF R) (q.2.flatMap editT) xs
  apart:R.Pairwise fun p q=>∀b,p.1.ownBlock=some b→q.1.ownBlock≠some b
theorem Fam.below {w0 w w':World} {R:List (Value×List OEdit)} (h:Fam w0 w R) (m:Bw w w'):Fam w0 w' R:=
 ⟨zA h.old m,fun q hq=>by obtain ⟨xs,h1,h2⟩:=h.rows q hq;exact ⟨xs,zAe h1 m,h2.below m⟩,h.apart⟩
theorem zBz {R:List (Value×List OEdit)} {k:Nat}:k∈blksF R↔∃q∈R,q.1.ownBlock=some k:=by
 unfold blksF;rw [List.mem_flatMap];exact ⟨fun ⟨q,h1,h2⟩=>⟨q,h1,zAy.1 h2⟩,fun ⟨q,h1,h2⟩=>⟨q,h1,zAy.2 h2⟩⟩
theorem Fam.lt {w0 w:World} {R:List (Value×List OEdit)} (h:Fam w0 w R) {k:Nat} (hk:k∈blksF R):w0.heap.size≤k∧k<w.heap.size:=by
 obtain ⟨q,hq,e⟩:=zBz.1 hk;obtain ⟨xs,h1,_⟩:=h.rows q hq;exact h1.lt k e
theorem Fam.grown {w0 w w':World} {P S:List (Value×List OEdit)} {v v':Value} {l l2:List OEdit} {xs news:List Value} (h:Fam w0 w (P++(v,l)::S))
    (h2:ReadsL w (blksF (P++(v,l)::S)) (l.flatMap editT) xs) (h3:ReadsL w (blksF (P++(v,l)::S)) (l2.flatMap editT) news) (ho:w'.ownsRow w0.heap.size 39 5 v' (l.length+l2.length) (xs++news)) (hg:w.grownBy w' v.ownBlock) (hb:v'.ownBlock=v.ownBlock∨v'.ownBlock=some w.heap.size):Fam w0 w' (P++(v',l++l2)::S):=by
  have m:=zAr hg
  have hsub:∀k∈blksF (P++(v',l++l2)::S),k=w.heap.size∨k∈blksF (P++(v,l)::S):=fun k hk=>by
    obtain ⟨q,hq,e⟩:=zBz.1 hk
    rcases List.mem_append.1 hq with hq|hq
    · exact .inr (zBz.2 ⟨q,List.mem_append_left _ hq,e⟩)
    rcases List.mem_cons.1 hq with rfl|hq
    · rcases hb with hb|hb
      · exact .inr (zBz.2 ⟨(v,l),List.mem_append_right _ (List.mem_cons_self ..),hb.symm.trans e⟩)
      · left;have:=hb.symm.trans e;injection this with this;exact this.symm
    · exact .inr (zBz.2 ⟨q,List.mem_append_right _ (List.mem_cons_of_mem _ hq),e⟩)
  have hmv:∀k∈v.ownBlock.toList,k∈blksF (P++(v,l)::S):=fun k hk=>zBz.2 ⟨(v,l),List.mem_append_right _ (List.mem_cons_self ..),by simpa using hk⟩
  have hrd:∀{L:List OEdit} {ys:List Value},ReadsL w (blksF (P++(v,l)::S)) (L.flatMap editT) ys→ReadsL w' (blksF (P++(v',l++l2)::S)) (L.flatMap editT) ys:=fun hr=>
    ((hr.more (Nat.le_refl _)).mod (m.mono fun k hk=>List.mem_cons_of_mem _ (hmv k hk))).fewer fun k hk=>by
      rcases hsub k hk with rfl|q
      · exact List.mem_cons_self
      · exact List.mem_cons_of_mem _ q
  obtain ⟨a1,a2,a3⟩:=List.pairwise_append.1 h.apart
  obtain ⟨b1,b2⟩:=List.pairwise_cons.1 a2
  have hoth:∀q,(q∈P∨q∈S)→∀b,q.1.ownBlock=some b→b∉v.ownBlock.toList:=fun q hq b e c=>by
    have c':v.ownBlock=some b:=by simpa using c
    rcases hq with hq|hq
    · exact a3 q hq (v,l) (List.mem_cons_self ..) b e c'
    · exact b1 q hq b c' e
  have hfr:∀q,(q∈P∨q∈S)→∀b,q.1.ownBlock=some b→b<w.heap.size:=fun q hq b e=>(h.lt (zBz.2 ⟨q,by
    rcases hq with hq|hq
    · exact List.mem_append_left _ hq
    · exact List.mem_append_right _ (List.mem_cons_of_mem _ hq),e⟩)).2
  have hnew:∀q,(q∈P∨q∈S)→∀b,q.1.ownBlock=some b→v'.ownBlock≠some b:=fun q hq b e c=>by
    rcases hb with hb|hb
    · exact hoth q hq b e (by rw [←hb,c];simp)
    · have:=hfr q hq b e
      rw [hb] at c
      injection c with c
      omega
  refine ⟨?_,fun q hq=>?_,?_⟩
  · exact h.old.trans (m.upto h.old.size fun k hk=>(h.lt (hmv k hk)).1)
  · rcases List.mem_append.1 hq with hq|hq
    · obtain ⟨ys,h4,h5⟩:=h.rows q (List.mem_append_left _ hq)
      exact ⟨ys,zCh h4 m (hoth q (.inl hq)),hrd h5⟩
    rcases List.mem_cons.1 hq with rfl|hq
    · refine ⟨xs++news,by rw [List.length_append];exact ho,?_⟩
      rw [List.flatMap_append]
      exact ReadsL.append (hrd h3) (hrd h2)
    · obtain ⟨ys,h4,h5⟩:=h.rows q (List.mem_append_right _ (List.mem_cons_of_mem _ hq))
      exact ⟨ys,zCh h4 m (hoth q (.inr hq)),hrd h5⟩
  · exact List.pairwise_append.2 ⟨a1,List.pairwise_cons.2 ⟨fun q hq b e c=>hnew q (.inr hq) b c e,b2⟩,fun p hp q hq b e=>by
      rcases List.mem_cons.1 hq with rfl|hq
      · exact hnew p (.inl hp) b e
      · exact a3 p hp q (List.mem_cons_of_mem _ hq) b e⟩
theorem Fam.reads {w0 w:World} {R:List (Value×List OEdit)} (h:Fam w0 w R) {q:Value×List OEdit} (hq:q∈R):Reads w [] (editsT q.2) q.1:=by
 obtain ⟨xs,h1,h2⟩:=h.rows q hq;exact Reads.ofRow (zAg h1) (fun _ b _=>by simp) (h2.fewer fun k hk=>by simp at hk)
theorem Fam.start (w0:World) (w:World) (hb:Bw w0 w) (n:Nat):Fam w0 w (List.replicate n (.slice none 0 0,[])):=
 ⟨hb,fun q hq=>by rw [List.eq_of_mem_replicate hq];exact ⟨[],World.ownsRow_nil _ _ _ _,ReadsL.nil _ _⟩,List.pairwise_replicate.2 (.inr fun b e=>by cases e)⟩
def noMod:OMod:=⟨⟨#[]⟩,[],[]⟩
def bothT (p:Pair):List Tree:=[strT p.label,.leaf (.bool p.a.isSome),.leaf (.bool p.b.isSome)]++modT (p.a.getD noMod)++modT (p.b.getD noMod)
theorem zOn (m:Option OMod):usesO m=(m.getD noMod).uses:=by cases m<;>rfl
theorem zLv (m:Option OMod):declsO m=(m.getD noMod).decls:=by cases m<;>rfl
def OwnP (w0 w:World) (B:Nat) (v:Value) (l:List Pair):Prop:=∃xs,w.ownsRow B 71 9 v l.length xs∧ReadsL w0 [] (l.flatMap bothT) xs
theorem OwnP.nil (w0 w:World) (B:Nat):OwnP w0 w B (.slice none 0 0) []:=⟨[],World.ownsRow_nil _ _ _ _,ReadsL.nil _ _⟩
theorem OwnP.reads {w0 w:World} {B:Nat} {v:Value} {l:List Pair} (h:OwnP w0 w B v l) (m:Bw w0 w):Reads w [] (rowT 9 bothT l) v:=by
 obtain ⟨xs,h1,h2⟩:=h;exact Reads.ofRow (zAg h1) (fun _ b _=>by simp) (h2.below m)
theorem zBq {α:Type} {size:Nat} {f:α→List Tree} (hf:∀x,(f x).length=size) {w:World} {X:List Nat} {x:α} {r:List α} {a:Option Addr} {c:Nat} (h:Reads w X (rowT size f (x::r)) (.slice a (r.length+1) c)) (a':Option Addr) (ha:∀b o,0<r.length→a=some ⟨b,o,none⟩→a'=some ⟨b,o+size,none⟩):Reads w X (rowT size f r) (.slice a' r.length (c - 1)):=by
  obtain ⟨xs,hr,hx0,hx⟩:=Reads.toRow h
  have hs:=yBi (k:=1) (a':=a') hr (by simp) (fun b o h1 h2=>by rw [Nat.one_mul];exact ha b o (by simp at h1;omega) h2)
  simp only [Nat.add_sub_cancel,Nat.one_mul] at hs
  refine Reads.ofRow hs (fun h0 b hb=>?_) ?_
  · obtain ⟨_,a1,cap,e,_,_,h3⟩:=hr
    injection e with e1 e2 e3
    subst e1
    obtain ⟨b',o,e,_,_⟩:=h3 (by simp)
    have:=ha b' o h0 e
    rw [this] at hb
    have hbb:b'=b:=by simpa [Value.ownBlock] using hb
    exact hx0 (by simp) b (by rw [e,←hbb];rfl)
  · have:=hx.drop size
    rw [List.flatMap_cons,List.drop_left' (hf x)] at this
    exact this
end Go.Proofs.YtfkjfdbjhlmjcaaGreatDoor
