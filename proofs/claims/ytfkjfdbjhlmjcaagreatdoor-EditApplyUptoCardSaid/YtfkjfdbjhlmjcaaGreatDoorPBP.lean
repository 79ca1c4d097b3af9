/- Reference 34: CheckAll, place, spot. Reference 34: CheckAll. Reference 34: without. Plain: With and without at a sorted list. Reference 34: uses. Rows that are cut, and lists that a call builds anew: what reference 34 appends. Lists of edits that a call builds side by side. -/
import Derived.Test.YtfkjfdbjhlmjcaaGreatDoorPBL
import Derived.Test.YtfkjfdbjhlmjcaaGreatDoorPCA
namespace Go.Proofs.YtfkjfdbjhlmjcaaGreatDoor
open Go.RowKit Go.Shelf
attribute [local go_sem] Oper.semAt_some
set_option maxRecDepth 100000 in
set_option maxHeartbeats 4000000 in
theorem zL (l:List OMod) (a:Option Addr) (c:Nat) (s:ByteArray) (w:World) (hr:Reads w [] (modsT l) (.slice a l.length c)) (ha:Asc ltB OMod.label l) (hn:l.length≤1000000) :
  Calls Tryz.prog 43 #[.slice a l.length c,.string s] w fun e w'=>e=.returned (.tuple #[.int .i64 (plc ltB OMod.label l s:Nat),.bool (look ltB OMod.label l s).isSome])∧Bw w w':=by
 have HS:=lH (zKq zGj ha s);have HR:=lH hr;have hp:=HS.o.le;clear hr ha;generalize plc ltB OMod.label l s=p at *;generalize (look ltB OMod.label l s).isSome=f at *
 go_enter Tryz.func43,Tryz.ntmps43
 go_wp2
 go_loopw [6] (fun iv wr=>∃k:Nat,k≤p∧iv=.int .i64 k∧Bw w wr) (fun iv _=>l.length - (intOf iv).toNat)
 case atStart=>exact ⟨0,Nat.zero_le _,rfl,zBe _⟩
 case round=>
  obtain ⟨k,hkp,rfl,hb⟩:=hrel
  by_cases hk:k<l.length
  ·have hd:decide ((k:Int)<(l.length:Int))=true:=decide_eq_true (by omega)
   have hir:(k:Int)<(l.length:Int):=by omega
   obtain ⟨m,hmi⟩:∃m,l[k]?=some m:=⟨_,List.getElem?_eq_getElem hk⟩;obtain ⟨b,o,au,cu,ad,cd,rfl,hbl,c0,-,-,-⟩:=zBh (HR.o.below hb) hmi;have hbr:b<wr.heap.size:=hbl
   by_cases hkl:k<p
   ·have hlt:Op.bytesLess m.label.toList s.toList=true:=HS.o.lo k m hmi hkl
    clear hmi HS;go_wp2;go_roundw
    case rel=>exact ⟨k+1,by omega,by go_num,hb⟩
    case measure=>simp [intOf];omega
   ·obtain rfl:k=p:=by omega
    have hlt:Op.bytesLess m.label.toList s.toList=false:=HS.o.hi k m hmi (Nat.le_refl _)
    cases f with
    | true=>
     obtain ⟨y,hy,hyk⟩:=HS.o.yes rfl;rw [hmi] at hy
     cases hy
     have heq:(m.label.toList==s.toList)=true:=by rw [hyk];exact beq_self_eq_true _
     clear hmi HS hyk;go_wp2_with (fail)
     go_quiet (fail)
     go_wp2;go_ret2;exact ⟨rfl,below_drewN hb _⟩
    | false=>
     have heq:(m.label.toList==s.toList)=false:=zMk (HS.o.no rfl m hmi);clear hmi HS;go_wp2_with (fail)
     go_quiet (fail)
     go_wp2;go_ret2;exact ⟨rfl,below_drewN hb _⟩
  ·have hd:decide ((k:Int)<(l.length:Int))=false:=decide_eq_false (by omega)
   obtain rfl:k=p:=by omega
   have hf:f=false:=by
    cases hf:f with
    | false=>rfl
    | true=>obtain ⟨x,hx,_⟩:=HS.o.yes hf;rw [List.getElem?_eq_none (by omega)] at hx;cases hx
   subst hf;clear HS HR;go_wp2_with (fail)
   go_quiet (fail)
   go_wp2;go_ret2;exact ⟨rfl,below_drewN hb _⟩
set_option maxRecDepth 100000 in
set_option maxHeartbeats 4000000 in
theorem zSi (l:List ODecl) (a:Option Addr) (c:Nat) (s:Int) (w:World) (hr:Reads w [] (declsT l) (.slice a l.length c)) (ha:Asc ltI ODecl.id l) (hn:l.length≤1000000) :
  Calls Tryz.prog 138 #[.slice a l.length c,.int .i64 s] w fun e w'=>e=.returned (.tuple #[.int .i64 (plc ltI ODecl.id l s:Nat),.bool (look ltI ODecl.id l s).isSome])∧Bw w w':=by
 have HS:=lH (zKq zVu ha s);have HR:=lH hr;have hp:=HS.o.le;clear hr ha;generalize plc ltI ODecl.id l s=p at *;generalize (look ltI ODecl.id l s).isSome=f at *
 go_enter Tryz.func138,Tryz.ntmps138
 go_wp2
 go_loopw [6] (fun iv wr=>∃k:Nat,k≤p∧iv=.int .i64 k∧Bw w wr) (fun iv _=>l.length - (intOf iv).toNat)
 case atStart=>exact ⟨0,Nat.zero_le _,rfl,zBe _⟩
 case round=>
  obtain ⟨k,hkp,rfl,hb⟩:=hrel
  by_cases hk:k<l.length
  ·have hd:decide ((k:Int)<(l.length:Int))=true:=decide_eq_true (by omega)
   have hir:(k:Int)<(l.length:Int):=by omega
   obtain ⟨m,hmi⟩:∃m,l[k]?=some m:=⟨_,List.getElem?_eq_getElem hk⟩;obtain ⟨b,o,an,cn,sa,cs,rfl,hbl,hc,-⟩:=zAt (HR.o.below hb) hmi;have c0:wr.cell? ⟨b,o+k * 11,none⟩=some (.int .i64 m.id):=hc 0 _ rfl;clear hc;have hbr:b<wr.heap.size:=hbl
   by_cases hkl:k<p
   ·have hlt:decide (m.id<s)=true:=HS.o.lo k m hmi hkl
    clear hmi HS;go_wp2;go_roundw
    case rel=>exact ⟨k+1,by omega,by go_num,hb⟩
    case measure=>simp [intOf];omega
   ·obtain rfl:k=p:=by omega
    have hlt:decide (m.id<s)=false:=HS.o.hi k m hmi (Nat.le_refl _)
    cases f with
    | true=>
     obtain ⟨y,hy,hyk⟩:=HS.o.yes rfl;rw [hmi] at hy
     cases hy
     have heq:(m.id==s)=true:=by rw [hyk];exact beq_self_eq_true _
     clear hmi HS hyk;go_wp2_with (fail)
     go_quiet (fail)
     go_wp2;go_ret2;exact ⟨rfl,below_drewN hb _⟩
    | false=>
     have heq:(m.id==s)=false:=by rw [beq_eq_false_iff_ne];exact HS.o.no rfl m hmi
     clear hmi HS;go_wp2_with (fail)
     go_quiet (fail)
     go_wp2;go_ret2;exact ⟨rfl,below_drewN hb _⟩
  ·have hd:decide ((k:Int)<(l.length:Int))=false:=decide_eq_false (by omega)
   obtain rfl:k=p:=by omega
   have hf:f=false:=by
    cases hf:f with
    | false=>rfl
    | true=>obtain ⟨x,hx,_⟩:=HS.o.yes hf;rw [List.getElem?_eq_none (by omega)] at hx;cases hx
   subst hf;clear HS HR;go_wp2_with (fail)
   go_quiet (fail)
   go_wp2;go_ret2;exact ⟨rfl,below_drewN hb _⟩
set_option maxRecDepth 100000 in
set_option maxHeartbeats 4000000 in
theorem zIy (L:List OMod) (a:Option Addr) (c:Nat) (w:World) (hr:Reads w [] (modsT L) (.slice a L.length c)) (hs:∀m∈L,SmM m) (hn:L.length≤1000000) :
  Calls Tryz.prog 35 #[.slice a L.length c] w fun r w'=>r=.returned (.int .i64 (modsErr L))∧Bw w w':=by
 obtain ⟨T,hT⟩:∃T,modsErr L=T:=⟨_,rfl⟩
 have hE:T=if nzFrom (ordAt L) L.length 1=0 then testErr L else 10:=by
  rw [←hT];unfold modsErr
  rcases Nat.eq_zero_or_pos L.length with h|h
  ·rw [zAz (ordAt L) (n:=L.length) (k:=0) (by omega),zAz (ordAt L) (n:=L.length) (k:=1) (by omega)]
  ·rw [zBg (ordAt L) h,if_pos (show ordAt L 0=0 by unfold ordAt;rw [if_neg (fun c=>absurd c.1 (Nat.lt_irrefl 0))])]
 have HE:=lH hE;have HTT:=lH hT;have HR:=lH hr;have HSM:=lH hs;have HQ:Hid (testErr L=nzFrom (fun i=>modErr (mAt L i)) L.length 0):=rfl;clear hT hr hs hE;generalize testErr L=Q at *;generalize hf:ordAt L=f at *;have HFF:Hid (∀i,f i=ordAt L i):=fun i=>by rw [←hf]
 clear hf;generalize hg:(fun i=>modErr (mAt L i))=g at *;have HGG:Hid (∀i,g i=modErr (mAt L i)):=fun i=>by rw [←hg]
 clear hg
 go_enter Tryz.func35,Tryz.ntmps35
 go_wp2
 go_loopw [3] (fun iv wr=>∃j:Nat,j≤L.length∧iv=.int .i64 ((j:Int)+1)∧Hid (T=if nzFrom f L.length (j+1)=0 then Q else 10)∧Bw w wr) (fun iv _=>L.length+1 - (intOf iv).toNat)
 case atStart=>exact ⟨0,Nat.zero_le _,rfl,HE,zBe _⟩
 case round=>
  obtain ⟨j,hkl,rfl,HI,hb⟩:=hrel
  by_cases hi:j+1<L.length
  ·have hd:decide ((j:Int)+1<(L.length:Int))=true:=decide_eq_true (by omega)
   obtain ⟨m,hmi⟩:∃m,L[j+1]?=some m:=⟨_,List.getElem?_eq_getElem hi⟩;obtain ⟨p,hpj⟩:∃p,L[j]?=some p:=⟨_,List.getElem?_eq_getElem (by omega)⟩;have HN:=HI;rw [zBg f hi] at HN;have hfk:=HFF.o (j+1);unfold ordAt at hfk;rw [zDt hmi,Nat.add_sub_cancel,zDt hpj] at hfk;obtain ⟨b,o,au,cu,ad,cd,rfl,hbl,x0',-,-,-,-,-,-,-,-⟩:=zBh HR.o hmi;have hbr:b<wr.heap.size:=Nat.lt_of_lt_of_le hbl hb.size;have x0:=(hb.cell (p:=⟨b,_,none⟩) hbl).trans x0'
   obtain ⟨b',o',au',cu',ad',cd',e',-,y0',-,-,-,-,-,-,-,-⟩:=zBh HR.o hpj
   injection e' with e'
   injection e' with e1 e2
   subst e1 e2;have y0:=(hb.cell (p:=⟨b,_,none⟩) hbl).trans y0';clear x0' y0' HI;obtain ⟨q,hq⟩:∃q,ltB p.label m.label=q:=⟨_,rfl⟩;rw [hq] at hfk;have hw1:IntKind.i64.wrap ((j:Int)+1 - 1)=(j:Int):=by rw [Int.add_sub_cancel];exact IntWalk.i64_in _ (by omega)
   have hj1:(j:Int)<(L.length:Int):=by omega
   have hj2:(j:Int)+1<(L.length:Int):=by omega
   cases q with
   | true=>
    have hq':Op.bytesLess p.label.toList m.label.toList=true:=hq;rw [if_neg (by simp)] at hfk;rw [hfk,if_pos rfl] at HN;clear hfk hpj hmi hq;generalize p.label=t at *;generalize m.label=s at *;go_wp2_with (fail)
    go_quiet (fail)
    go_wp2;go_roundw
    case rel=>exact ⟨j+1,by omega,by go_num,HN,below_drewN hb _⟩
    case measure=>simp [intOf];omega
   | false=>
    rw [if_pos ⟨by omega,rfl⟩] at hfk;rw [hfk,if_neg (by rw [if_neg (by decide)];decide)] at HN;have hq':Op.bytesLess p.label.toList m.label.toList=false:=hq;clear hfk hpj hmi hq;generalize p.label=t at *;generalize m.label=s at *;go_wp2_with (fail)
    go_quiet (fail)
    go_wp2;go_ret;exact ⟨zAd (HN.o.symm.trans HTT.o.symm),below_drewN hb _⟩
  ·have hd:decide ((j:Int)+1<(L.length:Int))=false:=decide_eq_false (by omega)
   have HN:=HI;rw [zAz f (by omega),if_pos rfl,HQ.o] at HN;have HB:=lH hb;clear HI hi hkl hb HE;generalize wr=wq at *;go_wp2
   go_loopw [4] (fun iv wr=>∃k:Nat,k≤L.length∧iv=.int .i64 k∧Hid (T=nzFrom g L.length k)∧Bw w wr) (fun iv _=>L.length - (intOf iv).toNat)
   case atStart=>exact ⟨0,Nat.zero_le _,rfl,HN,HB.o⟩
   case round=>
    obtain ⟨k,hkl,rfl,HI,hb⟩:=hrel
    by_cases hi:k<L.length
    ·have hd:decide ((k:Int)<(L.length:Int))=true:=decide_eq_true (by omega)
     have hir:(k:Int)<(L.length:Int):=by omega
     obtain ⟨m,hmi⟩:∃m,L[k]?=some m:=⟨_,List.getElem?_eq_getElem hi⟩;obtain ⟨b,o,au,cu,ad,cd,rfl,hbl,x0',x1',x2',-,-,hru,-,-,hrd⟩:=zBh HR.o hmi;have hbr:b<wr.heap.size:=Nat.lt_of_lt_of_le hbl hb.size;have x0:=(hb.cell (p:=⟨b,_,none⟩) hbl).trans x0';have x1:=(hb.cell (p:=⟨b,_,none⟩) hbl).trans x1';have x2:=(hb.cell (p:=⟨b,_,none⟩) hbl).trans x2';have HN:=lH (HI.o.trans (zBg g hi))
     have HBC:=lH (zCy m au cu ad cd wr (zAf.1 (hru.out.below hb)).1 (hrd.out.below hb) (HSM.o m (List.mem_of_getElem? hmi)));have hfk:g k=modErr m:=by rw [HGG.o,zDt hmi]
     rw [hfk] at HN;clear x0' x1' x2' hru hrd HI hfk;unfold modV at HBC;generalize modErr m=q at *;go_wp2_with (fail)
     refine HBC.o.mono ?_;rintro r w4 ⟨rfl,hb4⟩;have hB4:=hb.trans (hb4.mono hb.size);clear HBC
     by_cases hq:q=0
     ·rw [if_pos hq] at HN
      have q3:(q != 0)=false:=by rw [hq];rfl
      clear hq;go_wp2;go_roundw
      case rel=>exact ⟨k+1,by omega,by go_num,HN,hB4⟩
      case measure=>simp [intOf];omega
     ·rw [if_neg hq] at HN
      have q3:(q != 0)=true:=by simp [hq]
      clear hq;go_wp2;go_ret;exact ⟨zAd (HN.o.symm.trans HTT.o.symm),hB4⟩
    ·have hd:decide ((k:Int)<(L.length:Int))=false:=decide_eq_false (by omega)
     have HN:=lH (HI.o.trans (zAz g (by omega)));go_wp2;go_ret;exact ⟨zAd (HN.o.symm.trans HTT.o.symm),hb⟩
theorem zX (l:List ByteArray) (s:ByteArray):memS s l=(look ltB id l s).isSome:=by
 cases h:look ltB id l s with
 | none=>
  show memS s l=false
  unfold memS;rw [List.any_eq_false];intro t ht c;have:=(zFg zGj).1 h t ht;have e:s.data.toList=t.data.toList:=by simpa using c
  exact this (by show t=s;cases t;cases s;simp only at e;rw [Array.toList_inj] at e;rw [e])
 | some y=>
  show memS s l=true
  obtain ⟨h1,h2⟩:=zKm zGj h;unfold memS;rw [List.any_eq_true];exact ⟨y,h1,by show (s.data.toList==y.data.toList)=true;rw [←(show y=s from h2)];exact beq_self_eq_true _⟩
theorem zUa {l:List ByteArray} {s:ByteArray} (h:Miss ltB id l s):withL l s=insAt l (plc ltB id l s) s:=by
 have e:placeW l s=plc ltB id l s:=rfl;unfold withL;rw [e,if_neg,List.append_assoc];rfl;rintro ⟨h1,h2⟩;refine h.elt _ (List.getElem?_eq_getElem h1) ?_;have:sAt l (plc ltB id l s)=l[plc ltB id l s]:=by unfold sAt;rw [List.getD_eq_getElem?_getD,List.getElem?_eq_getElem h1];rfl
 rw [this] at h2;exact zKf.1 (by unfold eqS;show (l[plc ltB id l s].toList==s.toList)=true;rw [h2];exact beq_self_eq_true _)
def noS (s:ByteArray) (t:ByteArray):Bool:=!(t.toList==s.toList)
theorem zRi {s t:ByteArray}:noS s t=true↔t≠s:=by
 unfold noS
 constructor
 ·intro h c;rw [c,beq_self_eq_true] at h;exact absurd h (by decide)
 ·intro h;rw [zMk h];rfl
theorem zUb {l:List ByteArray} {s y:ByteArray} (ha:Asc ltB id l) (h:Hit ltB id l s y):l.filter (noS s)=delAt l (plc ltB id l s):=by
 obtain ⟨P,R,e,hp⟩:=zHl h.elt;have hy:y=s:=h.ky;have h1:=ha;rw [e] at h1;unfold Asc at h1;rw [List.pairwise_append,List.pairwise_cons] at h1;have hP:P.filter (noS s)=P:=List.filter_eq_self.2 fun t ht=>zRi.2 (hy▸zDm zGj (h1.2.2 t ht y (List.mem_cons_self ..)));have hR:R.filter (noS s)=R:=List.filter_eq_self.2 fun t ht=>zRi.2 (fun c=>zDm zGj (h1.2.1.1 t ht) (by show y=t;rw [hy,c]));generalize plc ltB id l s=p at *;subst hp
 rw [e,List.filter_append,hP,List.filter_cons_of_neg (by rw [zRi];exact fun c=>c hy),hR];exact (zKk rfl).symm
set_option maxRecDepth 100000 in
set_option maxHeartbeats 4000000 in
theorem zZu (l:List ByteArray) (s:ByteArray) (a:Option Addr) (c:Nat) (w:World) (hr:Strs w (.slice a l.length c) l) (hl:l.length≤1000000) (hmiss:Miss ltB id l s) :
  Calls Tryz.prog 42 #[.slice a l.length c,.string s] w fun e w'=>∃v,e=.returned v∧w'.ownsRow w.heap.size 9 1 v (withL l s).length ((withL l s).map .string)∧Bw w w':=by
 have HR:=lH hr
 have HM:Hid (placeW l s<l.length→((sAt l (placeW l s)).toList==s.toList)=false):=fun h=>by
  have e:placeW l s=plc ltB id l s:=rfl;have e2:sAt l (placeW l s)=l[placeW l s]:=by unfold sAt;rw [List.getD_eq_getElem?_getD,List.getElem?_eq_getElem h];rfl
  rw [e2];exact zMk (hmiss.elt _ (by rw [←e];exact List.getElem?_eq_getElem h))
 clear hmiss;have hp:placeW l s≤l.length:=List.findIdx_le_length;obtain ⟨_,_,e,hlc,hcm,hcell⟩:=hr.shape
 cases e
 have HC:=lH hcell;clear hr hcell;have hE:Hid (withL l s=if placeW l s<l.length∧(sAt l (placeW l s)).toList=s.toList then l else l.take (placeW l s)++[s]++l.drop (placeW l s)):=rfl
 have HJ:Hid (∀k,k<placeW l s→Op.bytesLess (sAt l k).toList s.toList=true):=fun k hk=>by
  have:=List.not_of_lt_findIdx hk;have hkl:k<l.length:=by omega
  simp only [Bool.not_eq_false'] at this
  unfold sAt;rw [List.getD_eq_getElem?_getD,List.getElem?_eq_getElem hkl];exact this
 have HJ2:Hid (placeW l s<l.length→Op.bytesLess (sAt l (placeW l s)).toList s.toList=false):=fun h=>by
  have this:(!(Op.bytesLess (l[placeW l s]).toList s.toList))=true:=List.findIdx_getElem (w:=h);unfold sAt;rw [List.getD_eq_getElem?_getD,List.getElem?_eq_getElem h];show Op.bytesLess (l[placeW l s]).toList s.toList=false
  simpa using this
 generalize withL l s=r at *;generalize placeW l s=p at *
 go_enter Tryz.func42,Tryz.ntmps42
 go_wp2;obtain ⟨i0,hi,hz0,hz1,hz2⟩:=info_parts zEp
 go_loop [5] (fun iv=>∃k:Nat,k≤p∧iv=.int .i64 k) (fun iv=>p - (intOf iv).toNat)
 case atStart=>exact ⟨0,Nat.zero_le _,rfl⟩
 case round=>
  obtain ⟨k,hk,rfl⟩:=hrel
  by_cases hkp:k<p
  ·have hd:decide ((k:Int)<(l.length:Int))=true:=decide_eq_true (by omega)
   obtain ⟨b,o,rfl,hbl,hc⟩:=HC.o k (by omega);have ck:w.cell? ⟨b,o+k,none⟩=some (.string (sAt l k)):=hc k (by omega);have hlt:=HJ.o k hkp;have hkn:(k:Int)<(l.length:Int):=by omega
   clear HJ HJ2 hE hc;generalize sAt l k=t at *;go_wp2
   go_round
   case rel=>exact ⟨k+1,by omega,by go_num⟩
   case measure=>simp [intOf];omega
  ·obtain rfl:k=p:=by omega
   have hkle:=hp
   by_cases hkl:k<l.length
   ·have hd:decide ((k:Int)<(l.length:Int))=true:=decide_eq_true (by omega)
    have hge:=HJ2.o hkl;obtain ⟨b,o,rfl,hbl,hc⟩:=HC.o k hkl;have ck:w.cell? ⟨b,o+k,none⟩=some (.string (sAt l k)):=hc k hkl;have hkn:(k:Int)<(l.length:Int):=by omega
    cases he:(sAt l k).toList==s.toList with
    | true=>
     exact absurd he (by rw [HM.o hkl];decide)
    | false=>
     have HF:Hid (r=l.take k++[s]++l.drop k):=by show _=_;rw [hE.out,if_neg (fun h=>by rw [h.2] at he;simp at he)]
     clear HJ HJ2 hE HC hc hk hkp hp;generalize sAt l k=t at *
     have HTK:Hid (∀w',Bw w w'→IsRow w' 1 (.slice (some ⟨b,o,none⟩) k c) k ((l.take k).map .string)):=fun w' hb'=>by
      have:=zAr ((HR.o.below hb').take hkle);rwa [List.length_take,Nat.min_eq_left hkle] at this
     have hkc:(k:Int)≤(c:Int):=by omega
     have hki:(k:Int)≤(l.length:Int):=by omega
     have HDR:Hid (∀w',Bw w w'→IsRow w' 1 (.slice (some ⟨b,o+k,none⟩) (l.length - k) (c - k)) (l.length - k) ((l.drop k).map .string)):=fun w' hb'=>by
      have h1:Reads w' [] (strsT l) (.slice (some ⟨b,o,none⟩) l.length c):=zAf.2 ⟨HR.o.below hb',fun _ _ _=>by simp⟩;have h2:=(zAf.1 (Reads.dropRow (size:=1) (fun _=>rfl) h1 hkle)).1;rw [Nat.mul_one] at h2;have h3:=zAr h2;rwa [List.length_drop] at h3
     have hck:k<c:=by omega
     have hown0:(w.alloc (.cells #[] 9)).ownsRow w.heap.size 9 1 (.slice (some ⟨w.heap.size,0,none⟩) 0 0) 0 []:=World.ownsRow_made w #[] 0 (Nat.le_refl _) (Nat.zero_le _) rfl;have hA0:=zAb w (.cells #[] 9);go_wp2_with (at_builtin;refine zAa rfl _ _ 50 rfl w.heap.size 9 i0 _ 1 16 Tryz.underlying50 hi hz0 hz1 hz2 rfl (by decide) _ _ _ rfl hown0 _ _ _ rfl (HTK.o _ hA0) (zAv _) (by unfold maxLen;omega) (by omega) (by simp) ?_)
     intro v1 w1 hown1 hg1 hb1;have hB1:Bw w w1:=hA0.grown hg1 (by simp) (fun k hk=>by cases hk;exact Nat.le_refl _);obtain ⟨a1,c1,rfl⟩:=zAe hown1;have hA1:=zAb w1 (.cells #[.string s] 9);have hrow1:IsRow (w1.alloc (.cells #[.string s] 9)) 1 (.slice (some ⟨w1.heap.size,0,none⟩) 1 1) 1 [.string s]:=zAr (zAk (B:=w1.heap.size) (l:=[s]) (zCh w1 w1.heap.size (Nat.le_refl _) (.string s) 9));have hs1:=hB1.size
     go_wp2_with (at_builtin;refine zAa rfl _ _ 50 rfl w.heap.size 9 i0 _ 1 16 Tryz.underlying50 hi hz0 hz1 hz2 rfl (by decide) _ _ _ rfl (hown1.alloc _) _ _ _ rfl hrow1 (by intro u hu;simp at hu;subst hu;rfl) (by unfold maxLen;omega) (by omega) (by simp;omega) ?_)
     intro v2 w2 hown2 hg2 hb2;have hB2:Bw w w2:=(hB1.trans (hA1.mono hB1.size)).grown hg2 (by simp;omega) (fun k hk=>(hown1.lt k hk).1);obtain ⟨a2,c2,rfl⟩:=zAe hown2;have hs2:=hB2.size;have HDw:=HDR.o w2 hB2;go_wp2_with (at_builtin;refine zAa rfl _ _ 50 rfl w.heap.size 9 i0 _ 1 16 Tryz.underlying50 hi hz0 hz1 hz2 rfl (by decide) _ _ _ rfl hown2 _ _ _ rfl HDw (zAv _) (by unfold maxLen;omega) (by omega) (by omega) ?_)
     intro v3 w3 hown3 hg3 hb3;have hB3:Bw w w3:=hB2.grown hg3 hs2 (fun k hk=>(hown2.lt k hk).1);go_wp2;go_ret;refine ⟨v3,rfl,?_,hB3⟩;rw [HF.o]
     skip
     have hlen:(l.take k++[s]++l.drop k).length=0+k+1+(l.length - k):=by simp;omega
     rw [hlen]
     simpa using hown3
   ·have hd:decide ((k:Int)<(l.length:Int))=false:=decide_eq_false (by omega)
    have HF:Hid (r=l.take k++[s]++l.drop k):=by show _=_;rw [hE.out,if_neg (by omega)]
    have hkn:¬(k:Int)<(l.length:Int):=by omega
    clear hk hkp hp HJ HJ2 hE
    rcases Nat.eq_zero_or_pos l.length with h0|h0
    ·obtain rfl:l=[]:=List.eq_nil_of_length_eq_zero h0
     obtain rfl:k=0:=by simpa using hkle
     have HF2:Hid (r=[s]):=HF.o;clear HC hd hkn hkle h0 hkl HR HF;have hown0:(w.alloc (.cells #[] 9)).ownsRow w.heap.size 9 1 (.slice (some ⟨w.heap.size,0,none⟩) 0 0) 0 []:=World.ownsRow_made w #[] 0 (Nat.le_refl _) (Nat.zero_le _) rfl;have hA0:=zAb w (.cells #[] 9);have hA1:=zA hA0 (zAb (w.alloc (.cells #[] 9)) (.cells #[.string s] 9))
     have hrow1:IsRow ((w.alloc (.cells #[] 9)).alloc (.cells #[.string s] 9)) 1 (.slice (some ⟨(w.alloc (.cells #[] 9)).heap.size,0,none⟩) 1 1) 1 [.string s]:=zAr (zAk (B:=(w.alloc (.cells #[] 9)).heap.size) (l:=[s]) (zCh (w.alloc (.cells #[] 9)) _ (Nat.le_refl _) (.string s) 9));simp only [World.size_alloc] at hrow1
     cases a with
     | none=>
      go_wp2_with (at_builtin;refine zAa rfl _ _ 50 rfl w.heap.size 9 i0 _ 1 16 Tryz.underlying50 hi hz0 hz1 hz2 rfl (by decide) _ _ _ rfl (hown0.alloc _) _ _ _ rfl hrow1 (by intro u hu;simp at hu;subst hu;rfl) (by unfold maxLen;omega) (by omega) (by simp;omega) ?_)
      intro v2 w2 hown2 hg2 hb2;have hB2:Bw w w2:=hA1.grown hg2 (by simp;omega) (fun k hk=>by cases hk;exact Nat.le_refl _);obtain ⟨g',cap',rfl⟩:=ownsRow_succ hown2
      have hcp:1≤cap':=by
       have h:=zBw hown2 (by omega);obtain ⟨_,_,_,_,_,_,_,hcp,_,_⟩:=h;exact hcp
      go_wp2;go_ret;refine ⟨_,rfl,?_,hB2⟩;rw [HF2.o]
      simpa using hown2
     | some ad=>
      go_wp2_with (at_builtin;refine zAa rfl _ _ 50 rfl w.heap.size 9 i0 _ 1 16 Tryz.underlying50 hi hz0 hz1 hz2 rfl (by decide) _ _ _ rfl (hown0.alloc _) _ _ _ rfl hrow1 (by intro u hu;simp at hu;subst hu;rfl) (by unfold maxLen;omega) (by omega) (by simp;omega) ?_)
      intro v2 w2 hown2 hg2 hb2;have hB2:Bw w w2:=hA1.grown hg2 (by simp;omega) (fun k hk=>by cases hk;exact Nat.le_refl _);obtain ⟨g',cap',rfl⟩:=ownsRow_succ hown2
      have hcp:1≤cap':=by
       have h:=zBw hown2 (by omega);obtain ⟨_,_,_,_,_,_,_,hcp,_,_⟩:=h;exact hcp
      go_wp2;go_ret;refine ⟨_,rfl,?_,hB2⟩;rw [HF2.o]
      simpa using hown2
    ·obtain ⟨b,o,rfl,hbl,hc⟩:=HC.o 0 h0
     clear HC hc
     have HTK:Hid (∀w',Bw w w'→IsRow w' 1 (.slice (some ⟨b,o,none⟩) k c) k ((l.take k).map .string)):=fun w' hb'=>by
      have:=zAr ((HR.o.below hb').take hkle);rwa [List.length_take,Nat.min_eq_left hkle] at this
     have hkc:(k:Int)≤(c:Int):=by omega
     have hki:(k:Int)≤(l.length:Int):=by omega
     by_cases hcl:c=k
     ·subst c
      have HDR:Hid (∀w',Bw w w'→IsRow w' 1 (.slice (some ⟨b,o,none⟩) 0 0) 0 []):=fun w' _=>zAr (l:=[]) (Strs.nil _ _ _ (Nat.zero_le _));have hdr:l.drop k=[]:=List.drop_eq_nil_of_le (by omega);rw [hdr] at HF;clear hdr;have hown0:(w.alloc (.cells #[] 9)).ownsRow w.heap.size 9 1 (.slice (some ⟨w.heap.size,0,none⟩) 0 0) 0 []:=World.ownsRow_made w #[] 0 (Nat.le_refl _) (Nat.zero_le _) rfl;have hA0:=zAb w (.cells #[] 9)
      go_wp2_with (at_builtin;refine zAa rfl _ _ 50 rfl w.heap.size 9 i0 _ 1 16 Tryz.underlying50 hi hz0 hz1 hz2 rfl (by decide) _ _ _ rfl hown0 _ _ _ rfl (HTK.o _ hA0) (zAv _) (by unfold maxLen;omega) (by omega) (by simp) ?_)
      intro v1 w1 hown1 hg1 hb1;have hB1:Bw w w1:=hA0.grown hg1 (by simp) (fun k hk=>by cases hk;exact Nat.le_refl _);obtain ⟨a1,c1,rfl⟩:=zAe hown1;have hA1:=zAb w1 (.cells #[.string s] 9);have hrow1:IsRow (w1.alloc (.cells #[.string s] 9)) 1 (.slice (some ⟨w1.heap.size,0,none⟩) 1 1) 1 [.string s]:=zAr (zAk (B:=w1.heap.size) (l:=[s]) (zCh w1 w1.heap.size (Nat.le_refl _) (.string s) 9));have hs1:=hB1.size
      go_wp2_with (at_builtin;refine zAa rfl _ _ 50 rfl w.heap.size 9 i0 _ 1 16 Tryz.underlying50 hi hz0 hz1 hz2 rfl (by decide) _ _ _ rfl (hown1.alloc _) _ _ _ rfl hrow1 (by intro u hu;simp at hu;subst hu;rfl) (by unfold maxLen;omega) (by omega) (by simp;omega) ?_)
      intro v2 w2 hown2 hg2 hb2;have hB2:Bw w w2:=(hB1.trans (hA1.mono hB1.size)).grown hg2 (by simp;omega) (fun k hk=>(hown1.lt k hk).1);obtain ⟨a2,c2,rfl⟩:=zAe hown2;have hs2:=hB2.size;have HDw:=HDR.o w2 hB2;go_wp2_with (at_builtin;refine zAa rfl _ _ 50 rfl w.heap.size 9 i0 _ 1 16 Tryz.underlying50 hi hz0 hz1 hz2 rfl (by decide) _ _ _ rfl hown2 _ _ _ rfl HDw (by intro u hu;cases hu) (by unfold maxLen;omega) (by omega) (by omega) ?_)
      intro v3 w3 hown3 hg3 hb3;have hB3:Bw w w3:=hB2.grown hg3 hs2 (fun k hk=>(hown2.lt k hk).1);go_wp2;go_ret;refine ⟨v3,rfl,?_,hB3⟩;rw [HF.o]
      skip
      have hlen:(l.take k++[s]++[]).length=0+k+1+0:=by simp;omega
      rw [hlen]
      simpa using hown3
     ·have HDR:Hid (∀w',Bw w w'→IsRow w' 1 (.slice (some ⟨b,o+k,none⟩) (l.length - k) (c - k)) (l.length - k) ((l.drop k).map .string)):=fun w' hb'=>by
       have h1:Reads w' [] (strsT l) (.slice (some ⟨b,o,none⟩) l.length c):=zAf.2 ⟨HR.o.below hb',fun _ _ _=>by simp⟩;have h2:=(zAf.1 (Reads.dropRow (size:=1) (fun _=>rfl) h1 hkle)).1;rw [Nat.mul_one] at h2;have h3:=zAr h2;rwa [List.length_drop] at h3
      have hck:k<c:=by omega
      have hown0:(w.alloc (.cells #[] 9)).ownsRow w.heap.size 9 1 (.slice (some ⟨w.heap.size,0,none⟩) 0 0) 0 []:=World.ownsRow_made w #[] 0 (Nat.le_refl _) (Nat.zero_le _) rfl;have hA0:=zAb w (.cells #[] 9);go_wp2_with (at_builtin;refine zAa rfl _ _ 50 rfl w.heap.size 9 i0 _ 1 16 Tryz.underlying50 hi hz0 hz1 hz2 rfl (by decide) _ _ _ rfl hown0 _ _ _ rfl (HTK.o _ hA0) (zAv _) (by unfold maxLen;omega) (by omega) (by simp) ?_)
      intro v1 w1 hown1 hg1 hb1;have hB1:Bw w w1:=hA0.grown hg1 (by simp) (fun k hk=>by cases hk;exact Nat.le_refl _);obtain ⟨a1,c1,rfl⟩:=zAe hown1;have hA1:=zAb w1 (.cells #[.string s] 9);have hrow1:IsRow (w1.alloc (.cells #[.string s] 9)) 1 (.slice (some ⟨w1.heap.size,0,none⟩) 1 1) 1 [.string s]:=zAr (zAk (B:=w1.heap.size) (l:=[s]) (zCh w1 w1.heap.size (Nat.le_refl _) (.string s) 9));have hs1:=hB1.size
      go_wp2_with (at_builtin;refine zAa rfl _ _ 50 rfl w.heap.size 9 i0 _ 1 16 Tryz.underlying50 hi hz0 hz1 hz2 rfl (by decide) _ _ _ rfl (hown1.alloc _) _ _ _ rfl hrow1 (by intro u hu;simp at hu;subst hu;rfl) (by unfold maxLen;omega) (by omega) (by simp;omega) ?_)
      intro v2 w2 hown2 hg2 hb2;have hB2:Bw w w2:=(hB1.trans (hA1.mono hB1.size)).grown hg2 (by simp;omega) (fun k hk=>(hown1.lt k hk).1);obtain ⟨a2,c2,rfl⟩:=zAe hown2;have hs2:=hB2.size;have HDw:=HDR.o w2 hB2;go_wp2_with (at_builtin;refine zAa rfl _ _ 50 rfl w.heap.size 9 i0 _ 1 16 Tryz.underlying50 hi hz0 hz1 hz2 rfl (by decide) _ _ _ rfl hown2 _ _ _ rfl HDw (zAv _) (by unfold maxLen;omega) (by omega) (by omega) ?_)
      intro v3 w3 hown3 hg3 hb3;have hB3:Bw w w3:=hB2.grown hg3 hs2 (fun k hk=>(hown2.lt k hk).1);go_wp2;go_ret;refine ⟨v3,rfl,?_,hB3⟩;rw [HF.o]
      skip
      have hlen:(l.take k++[s]++l.drop k).length=0+k+1+(l.length - k):=by simp;omega
      rw [hlen]
      simpa using hown3
set_option maxRecDepth 100000 in
set_option maxHeartbeats 4000000 in
theorem zRj (l:List ByteArray) (s:ByteArray) (a:Option Addr) (c:Nat) (w:World) (hr:Strs w (.slice a l.length c) l) (hl:l.length≤1000000) :
  Calls Tryz.prog 137 #[.slice a l.length c,.string s] w fun e w'=>∃v,e=.returned v∧w'.ownsRow w.heap.size 9 1 v (l.filter (noS s)).length ((l.filter (noS s)).map .string)∧Bw w w':=by
 have HR:=lH hr;obtain ⟨_,_,e,hlc,hcm,hcell⟩:=hr.shape
 cases e
 have HC:=lH hcell;obtain ⟨i0,hi,hz0,hz1,hz2⟩:=info_parts zEp;have hown0:(w.alloc (.cells #[] 9)).ownsRow w.heap.size 9 1 (.slice (some ⟨w.heap.size,0,none⟩) 0 0) 0 []:=World.ownsRow_made w #[] 0 (Nat.le_refl _) (Nat.zero_le _) rfl;have HO0:=lH hown0;have hA0:=zAb w (.cells #[] 9);clear hr hcell hown0
 go_enter Tryz.func137,Tryz.ntmps137
 go_wp2
 go_loopw [6,5] (fun iv vv wr=>∃k:Nat,k≤l.length∧iv=.int .i64 k∧Hid (wr.ownsRow w.heap.size 9 1 vv ((l.take k).filter (noS s)).length (((l.take k).filter (noS s)).map .string))∧Bw w wr) (fun iv _ _=>l.length - (intOf iv).toNat)
 case atStart=>exact ⟨0,Nat.zero_le _,rfl,HO0,hA0⟩
 case round=>
  obtain ⟨k,hk,rfl,HV,hb⟩:=hrel
  by_cases hkl:k<l.length
  ·have hd:decide ((k:Int)<(l.length:Int))=true:=decide_eq_true (by omega)
   have hki:(k:Int)<(l.length:Int):=by omega
   obtain ⟨b,o,rfl,hbl,hc⟩:=HC.o k hkl;have ck:wr.cell? ⟨b,o+k,none⟩=some (.string (sAt l k)):=(hb.cell (p:=⟨b,o+k,none⟩) hbl).trans (hc k hkl);have hbr:b<wr.heap.size:=Nat.lt_of_lt_of_le hbl hb.size
   have HT:Hid (l.take (k+1)=l.take k++[sAt l k]):=by
    show _=_
    rw [←List.take_append_getElem hkl];unfold sAt;rw [List.getD_eq_getElem?_getD,List.getElem?_eq_getElem hkl];rfl
   have hfl:((l.take k).filter (noS s)).length≤k:=Nat.le_trans (List.length_filter_le _ _) (by rw [List.length_take];omega);clear hc
   cases he:(sAt l k).toList==s.toList with
   | true=>
    have HF:Hid ((l.take (k+1)).filter (noS s)=(l.take k).filter (noS s)):=by
     show _=_
     rw [HT.o,List.filter_append,List.filter_cons_of_neg (by unfold noS;rw [he];decide),List.filter_nil,List.append_nil]
    clear HT hfl;generalize sAt l k=t at *;go_wp2;go_roundw
    case rel=>exact ⟨k+1,by omega,by go_num,by show World.ownsRow _ _ _ _ _ _ _;rw [HF.o];exact HV.o,hb⟩
    case measure=>simp [intOf];omega
   | false=>
    have HF:Hid ((l.take (k+1)).filter (noS s)=(l.take k).filter (noS s)++[sAt l k]):=by
     show _=_
     rw [HT.o,List.filter_append,List.filter_cons_of_pos (by unfold noS;rw [he];rfl),List.filter_nil]
    clear HT;generalize sAt l k=t at *;generalize (l.take k).filter (noS s)=F at *;obtain ⟨va,vc,rfl⟩:=zAe HV.o;have hA1:=zAb wr (.cells #[.string t] 9);have hrow1:IsRow (wr.alloc (.cells #[.string t] 9)) 1 (.slice (some ⟨wr.heap.size,0,none⟩) 1 1) 1 [.string t]:=zAr (zAk (B:=wr.heap.size) (l:=[t]) (zCh wr wr.heap.size (Nat.le_refl _) (.string t) 9));have hown1:=HV.o;have hsz:=hb.size;have hnb:∀q,Value.ownBlock (.slice va F.length vc)=some q→q<wr.heap.size:=fun q hq=>(hown1.lt q hq).2
    go_wp2_with (at_builtin;refine zAa rfl _ _ 50 rfl w.heap.size 9 i0 _ 1 16 Tryz.underlying50 hi hz0 hz1 hz2 rfl (by decide) _ _ _ rfl (hown1.alloc _) _ _ _ rfl hrow1 (by intro u hu;simp at hu;subst hu;rfl) (by unfold maxLen;omega) (by omega) (by simp;omega) ?_)
    intro v2 w2 hown2 hg2 hb2;have HB2:Hid (Bw w w2):=(hb.trans (hA1.mono hb.size)).grown hg2 (by simp;omega) (fun k hk=>(hown1.lt k hk).1)
    have HW2:Hid (w2.ownsRow w.heap.size 9 1 v2 (F++[t]).length ((F++[t]).map .string)):=by
     show World.ownsRow _ _ _ _ _ _ _
     rw [List.length_append,List.map_append];exact hown2
    clear hown2 hg2 hb2 hrow1 hA1 hown1 hnb;go_wp2;go_roundw
    case rel=>exact ⟨k+1,by omega,by go_num,by show World.ownsRow _ _ _ _ _ _ _;rw [HF.o];exact HW2.o,HB2.o⟩
    case measure=>simp [intOf];omega
  ·have hd:decide ((k:Int)<(l.length:Int))=false:=decide_eq_false (by omega)
   obtain rfl:k=l.length:=by omega
   have HV2:=HV.o;rw [List.take_length] at HV2;have HS:=lH HV2;clear HV2;go_wp2;go_ret;exact ⟨_,rfl,HS.o,hb⟩
def ModR (w:World) (X:List Nat) (m:OMod) (v:Value):Prop:=∃u d,v=.agg #[.string m.label,u,d]∧Reads w X (strsT m.uses) u∧Reads w X (declsT m.decls) d
def RefPost (w:World) (X:List Nat) (m:OMod) (e:OEdit) (r:Ending) (w':World):Prop:=
  ∃v,r=.returned (.tuple #[v,.int .i64 (inMod m e).2])∧ModR w' X (inMod m e).1 v∧Below w.heap.size w w'
theorem zCc {X:List Nat} {m:OMod} {e:OEdit} {m':OMod} {q:Int} {w w':World} {u d:Value} (h:inMod m e=(m',q)) (hu:Reads w' X (strsT m'.uses) u) (hd:Reads w' X (declsT m'.decls) d) (hb:Bw w w'):RefPost w X m e (.returned (.tuple #[.agg #[.string m'.label,u,d],.int .i64 q])) w':=
 ⟨_,by rw [h],by rw [h];exact ⟨u,d,rfl,hu,hd⟩,hb⟩
theorem zLk {W:World} {O:Nat} {T:TypeId} {a b c:Value} (h:CBox W O T #[a,b,c]) (x y z:Value):CBox (((W.setCell ⟨O,0,none⟩ x).setCell ⟨O,1,none⟩ y).setCell ⟨O,2,none⟩ z) O T #[x,y,z]:=((h.set 0 x).set 1 y).set 2 z
theorem zLl (W:World) (O:Nat) (x y z:Value):Mod [O] W (((W.setCell ⟨O,0,none⟩ x).setCell ⟨O,1,none⟩ y).setCell ⟨O,2,none⟩ z):=(((Mod.refl [O] W).setCell (by simp) _).setCell (by simp) _).setCell (by simp) _
set_option maxRecDepth 100000 in
set_option maxHeartbeats 4000000 in
theorem zZv (X:List Nat) (m:OMod) (u d:Value) (e:OEdit) (ao:Option Addr) (co:Nat) (af:Option Addr) (cf:Nat) (w:World) (hu:Reads w X (strsT m.uses) u) (hd:Reads w X (declsT m.decls) d) (hX:∀x∈X,x<w.heap.size) (hs:SrtM m) (hk:e.kind=3∨e.kind=4) (hl:m.uses.length≤40000) :
  Calls Tryz.prog 85 #[.agg #[.string m.label,u,d],editV e ao co af cf] w fun r w'=>RefPost w X m e r w':=by
 obtain ⟨B,hB⟩:∃B,B=w.heap.size:=⟨_,rfl⟩;obtain ⟨au,cu,rfl,-⟩:=(zAf.1 hu).1.shape;obtain ⟨ad,cd,rfl,-⟩:=zBn hd;obtain ⟨E,hE⟩:∃E,E=B+1:=⟨_,rfl⟩;obtain ⟨O,hO⟩:∃O,O=E+1:=⟨_,rfl⟩;obtain ⟨W0,hW0⟩:∃W0,W0=((w.alloc (.cells (mA m au cu ad cd) 52)).alloc (.cells #[.int .i64 e.kind,.string e.pack,.string e.text,.slice ao e.old.length co,.slice af e.fresh.length cf] 39)).alloc (.cells mZ 52):=⟨_,rfl⟩;have hb0:Bw w W0:=by rw [hW0];exact zA (zA (zAb _ _) (zAb _ _)) (zAb _ _)
 have hx1:CBox W0 B 52 (mA m au cu ad cd):=by rw [hW0,hB];exact ((CBox.new w _ _).alloc _).alloc _
 have hx2:CBox W0 E 39 #[.int .i64 e.kind,.string e.pack,.string e.text,.slice ao e.old.length co,.slice af e.fresh.length cf]:=by
  have:=(CBox.new (w.alloc (.cells (mA m au cu ad cd) 52)) 39 #[.int .i64 e.kind,.string e.pack,.string e.text,.slice ao e.old.length co,.slice af e.fresh.length cf]).alloc (.cells mZ 52);rw [World.size_alloc,←hB,←hE,←hW0] at this;exact this
 have hx3:CBox W0 O 52 mZ:=by
  have:=CBox.new ((w.alloc (.cells (mA m au cu ad cd) 52)).alloc (.cells #[.int .i64 e.kind,.string e.pack,.string e.text,.slice ao e.old.length co,.slice af e.fresh.length cf] 39)) 52 mZ;rw [World.size_alloc,World.size_alloc,←hB,←hE,←hO,←hW0] at this;exact this
 have HU:=lH hu;have HD:=lH hd;have HS:=lH hs;have HXL:=lH hX;have HB0:=lH hb0;have H1:=lH hx1;have H2:=lH hx2;have H3:=lH hx3;have HLT:Hid (B<O∧E<O∧w.heap.size≤B∧w.heap.size≤E):=⟨by omega,by omega,by omega,by omega⟩;have m0:=hx1.cell (i:=0) (v:=.string m.label) rfl;have m1:=hx1.cell (i:=1) (v:=.slice au m.uses.length cu) rfl;have m2:=hx1.cell (i:=2) (v:=.slice ad m.decls.length cd) rfl;have mf:=hx1.frozen 1;have ml:=hx1.lt;have e0:=hx2.cell (i:=0) (v:=.int .i64 e.kind) rfl
 have e2:=hx2.cell (i:=2) (v:=.string e.text) rfl;have el:=hx2.lt;obtain ⟨o0,o1,o2,ol⟩:=zAp hx3;obtain ⟨of0,of1,of2⟩:=zAx hx3;have HC:=lH (zJe (.slice au m.uses.length cu) e.text m.uses W0 ((zAf.1 hu).1.below hb0) hl);rw [zX] at HC;clear hu hd hs hb0 hx1 hx2 hx3 hX;unfold editV
 go_enter Tryz.func85,Tryz.ntmps85
 go_upto_region 1 with (fail)
 rw [←hW0,←hB,←hE,←hO];have HWW:=lH hW0;have HBB:=lH hB;clear hW0 hB hE hO;go_wp2_with (fail)
 refine HC.o.mono ?_;rintro r w1 ⟨rfl,hw1⟩;subst hw1;clear HC
 rcases hk with hk|hk
 ·rw [hk] at e0
  rcases zAu zGj HS.o.uses e.text with ⟨y,H⟩|H
  ·have HE:Hid (inMod m e=(m,7)):=by show _=_;unfold inMod;rw [if_pos hk,H.look]
   rw [H.look];simp only [Option.isSome_some]
   clear H hk;go_wp2;have hP:=zLk H3.o (.string m.label) (.slice au m.uses.length cu) (.slice ad m.decls.length cd);obtain ⟨r0,r1,r2,-⟩:=zAp hP;have hbw:=HB0.o.trans ((zLl W0 O (.string m.label) (.slice au m.uses.length cu) (.slice ad m.decls.length cd)).upto HB0.o.size (fun k hk=>by have:=HLT.o;simp at hk;omega));refine bodyPost_ret (by simp [results,Tryz.results85,go_sem,r0,r1,r2];try rfl) rfl ?_;exact zCc HE.o (HU.o.below hbw) (HD.o.below hbw) hbw
  ·have HE:Hid (inMod m e=(⟨m.label,withL m.uses e.text,m.decls⟩,0)):=by show _=_;unfold inMod;rw [if_pos hk,H.look,zUa H]
   rw [H.look];simp only [Option.isSome_none]
   have HMS:=lH H;clear H hk;have HCC:=lH (zZu m.uses e.text au cu W0 ((zAf.1 HU.o).1.below HB0.o) (by omega) HMS.o);go_wp2_with (fail)
   refine HCC.o.mono ?_;rintro r W1 ⟨v,rfl,ho,hb1⟩;obtain ⟨va,vc,rfl⟩:=zAe ho;have h1:=H1.o.below hb1;have h3:=H3.o.below hb1;have HO:=lH ho;have HB1:=lH hb1;clear m0 m1 m2 mf ml e0 e2 el o0 o1 o2 of0 of1 of2 ol HCC ho hb1;have m0:=h1.cell (i:=0) (v:=.string m.label) rfl;have m1:=h1.cell (i:=1) (v:=.slice au m.uses.length cu) rfl;have m2:=h1.cell (i:=2) (v:=.slice ad m.decls.length cd) rfl;have mf:=h1.frozen 1;have ml:=h1.lt;obtain ⟨o0,o1,o2,ol⟩:=zAp h3;obtain ⟨of0,of1,of2⟩:=zAx h3;have HH3:=lH h3
   clear h1 h3;have hne:B≠O:=by have:=HLT.o;omega
   have hne2:O≠B:=hne.symm;have hm1:Mod [B] W1 (W1.setCell ⟨B,1,none⟩ (.slice va (withL m.uses e.text).length vc)):=(Mod.refl [B] W1).setCell (by simp) _;have HM1:=lH hm1;clear hm1;go_wp2;have hP:=zLk (HH3.o.mod HM1.o (by simpa using hne2)) (.string m.label) (.slice va (withL m.uses e.text).length vc) (.slice ad m.decls.length cd);obtain ⟨r0,r1,r2,-⟩:=zAp hP;have hm3:=zLl (W1.setCell ⟨B,1,none⟩ (.slice va (withL m.uses e.text).length vc)) O (.string m.label) (.slice va (withL m.uses e.text).length vc) (.slice ad m.decls.length cd)
   have hb1:=zA HB0.o HB1.o;have hbw:=(hb1.trans (HM1.o.upto hb1.size (fun k hk=>by have:=HLT.o;simp at hk;omega))).trans (hm3.upto (Nat.le_trans hb1.size HM1.o.size) (fun k hk=>by have:=HLT.o;simp at hk;omega));refine bodyPost_ret (by simp [results,Tryz.results85,go_sem,r0,r1,r2];try rfl) rfl ?_;refine zCc (m':=⟨m.label,withL m.uses e.text,m.decls⟩) HE.o (zAf.2 ⟨zAk (B:=W0.heap.size) ?_,fun _ b hb c=>by have:=(HO.o.lt b hb).1;have:=HXL.o b c;have:=HB0.o.size;omega⟩) (HD.o.below hbw) hbw
   exact zBm (zBm HO.o HM1.o (fun b hb c=>by have:=(HO.o.lt b hb).1;have:=H1.o.lt;simp at c;omega)) hm3 (fun b hb c=>by have:=(HO.o.lt b hb).1;have:=H3.o.lt;simp at c;omega)
 ·rw [hk] at e0
  rcases zAu zGj HS.o.uses e.text with ⟨y,H⟩|H
  ·have HE:Hid (inMod m e=(⟨m.label,m.uses.filter (noS e.text),m.decls⟩,0)):=by show _=_;unfold inMod;rw [if_neg (by omega),if_pos hk,H.look,zUb HS.o.uses H]
   rw [H.look];simp only [Option.isSome_some]
   clear H hk;have HCC:=lH (zRj m.uses e.text au cu W0 ((zAf.1 HU.o).1.below HB0.o) (by omega));go_wp2_with (fail)
   refine HCC.o.mono ?_;rintro r W1 ⟨v,rfl,ho,hb1⟩;obtain ⟨va,vc,rfl⟩:=zAe ho;have h1:=H1.o.below hb1;have h3:=H3.o.below hb1;have HO:=lH ho;have HB1:=lH hb1;clear m0 m1 m2 mf ml e0 e2 el o0 o1 o2 of0 of1 of2 ol HCC ho hb1;have m0:=h1.cell (i:=0) (v:=.string m.label) rfl;have m1:=h1.cell (i:=1) (v:=.slice au m.uses.length cu) rfl;have m2:=h1.cell (i:=2) (v:=.slice ad m.decls.length cd) rfl;have mf:=h1.frozen 1;have ml:=h1.lt;obtain ⟨o0,o1,o2,ol⟩:=zAp h3;obtain ⟨of0,of1,of2⟩:=zAx h3;have HH3:=lH h3
   clear h1 h3;have hne:B≠O:=by have:=HLT.o;omega
   have hne2:O≠B:=hne.symm;have hm1:Mod [B] W1 (W1.setCell ⟨B,1,none⟩ (.slice va (m.uses.filter (noS e.text)).length vc)):=(Mod.refl [B] W1).setCell (by simp) _;have HM1:=lH hm1;clear hm1;go_wp2;have hP:=zLk (HH3.o.mod HM1.o (by simpa using hne2)) (.string m.label) (.slice va (m.uses.filter (noS e.text)).length vc) (.slice ad m.decls.length cd);obtain ⟨r0,r1,r2,-⟩:=zAp hP
   have hm3:=zLl (W1.setCell ⟨B,1,none⟩ (.slice va (m.uses.filter (noS e.text)).length vc)) O (.string m.label) (.slice va (m.uses.filter (noS e.text)).length vc) (.slice ad m.decls.length cd);have hb1:=zA HB0.o HB1.o;have hbw:=(hb1.trans (HM1.o.upto hb1.size (fun k hk=>by have:=HLT.o;simp at hk;omega))).trans (hm3.upto (Nat.le_trans hb1.size HM1.o.size) (fun k hk=>by have:=HLT.o;simp at hk;omega));refine bodyPost_ret (by simp [results,Tryz.results85,go_sem,r0,r1,r2];try rfl) rfl ?_
   refine zCc (m':=⟨m.label,m.uses.filter (noS e.text),m.decls⟩) HE.o (zAf.2 ⟨zAk (B:=W0.heap.size) ?_,fun _ b hb c=>by have:=(HO.o.lt b hb).1;have:=HXL.o b c;have:=HB0.o.size;omega⟩) (HD.o.below hbw) hbw;exact zBm (zBm HO.o HM1.o (fun b hb c=>by have:=(HO.o.lt b hb).1;have:=H1.o.lt;simp at c;omega)) hm3 (fun b hb c=>by have:=(HO.o.lt b hb).1;have:=H3.o.lt;simp at c;omega)
  ·have HE:Hid (inMod m e=(m,8)):=by show _=_;unfold inMod;rw [if_neg (by omega),if_pos hk,H.look]
   rw [H.look];simp only [Option.isSome_none]
   clear H hk;go_wp2;have hP:=zLk H3.o (.string m.label) (.slice au m.uses.length cu) (.slice ad m.decls.length cd);obtain ⟨r0,r1,r2,-⟩:=zAp hP;have hbw:=HB0.o.trans ((zLl W0 O (.string m.label) (.slice au m.uses.length cu) (.slice ad m.decls.length cd)).upto HB0.o.size (fun k hk=>by have:=HLT.o;simp at hk;omega));refine bodyPost_ret (by simp [results,Tryz.results85,go_sem,r0,r1,r2];try rfl) rfl ?_;exact zCc HE.o (HU.o.below hbw) (HD.o.below hbw) hbw
end Go.Proofs.YtfkjfdbjhlmjcaaGreatDoor
namespace Go.Proofs.YtfkjfdbjhlmjcaaGreatDoor
open Go.RowKit Go.Shelf
theorem zSj {w:World} {a:Option Addr} {n c k sz:Nat} {xs:List Value} (h:IsRow w sz (.slice a n c) n xs) (hk:k≤n):IsRow w sz (.slice a k c) k (xs.take (k * sz)):=by
 obtain ⟨hl,a',cap,e,h1,h2,h3⟩:=h
 injection e with e1 e2 e3
 subst e1 e3;refine ⟨by rw [List.length_take,hl];exact Nat.min_eq_left (Nat.mul_le_mul_right sz hk),_,_,rfl,by omega,h2,fun h0=>?_⟩;obtain ⟨b,o,e,hb,hc⟩:=h3 (by omega);refine ⟨b,o,e,hb,fun j v hj=>?_⟩;rw [List.getElem?_take] at hj;split at hj
 ·exact hc j v hj
 ·cases hj
theorem zNu {w:World} {a:Option Addr} {n c k sz:Nat} {xs:List Value} {a':Option Addr} (h:IsRow w sz (.slice a n c) n xs) (hk:k≤n) (ha:∀b o,k<n→a=some ⟨b,o,none⟩→a'=some ⟨b,o+k * sz,none⟩):IsRow w sz (.slice a' (n - k) (c - k)) (n - k) (xs.drop (k * sz)):=by
 obtain ⟨hl,a1,cap,e,h1,h2,h3⟩:=h
 injection e with e1 e2 e3
 subst e1 e3;refine ⟨by rw [List.length_drop,hl,Nat.sub_mul],_,_,rfl,by omega,by omega,fun h0=>?_⟩;obtain ⟨b,o,e,hb,hc⟩:=h3 (by omega);refine ⟨b,o+k * sz,ha b o (by omega) e,hb,fun j v hj=>?_⟩;rw [List.getElem?_drop] at hj;rw [Nat.add_assoc];exact hc _ v hj
def OwnD (w0:World) (X:List Nat) (W:World) (base:Nat) (v:Value) (L:List ODecl):Prop:=∃xs,W.ownsRow base 62 11 v L.length xs∧ReadsL w0 X (L.flatMap declT) xs
theorem OwnD.reads {w0 W:World} {X:List Nat} {base:Nat} {v:Value} {L:List ODecl} (h:OwnD w0 X W base v L) (hb:Bw w0 W) (hX:∀x∈X,x<base):Reads W X (declsT L) v:=by
 obtain ⟨xs,h1,h2⟩:=h;exact Reads.ofRow (zAo h1) (fun _ b hb c=>by have:=(h1.lt b hb).1;have:=hX b c;omega) (h2.below hb)
theorem OwnD.mod {w0 W W':World} {Y:List Nat} {base:Nat} {v:Value} {L:List ODecl} {X:List Nat} (h:OwnD w0 Y W base v L) (m:Mod X W W') (hx:∀b,v.ownBlock=some b→b∉X):OwnD w0 Y W' base v L:=by
 obtain ⟨xs,h1,h2⟩:=h;exact ⟨xs,zBm h1 m hx,h2⟩
theorem zEh {W:World} {B:Nat} {d:ODecl} {an:Option Addr} {cn:Nat} {sa:Option Addr} {cs:Nat} (h:CBox W B 62 (declL d an cn sa cs).toArray):IsRow W 11 (.slice (some ⟨B,0,none⟩) 1 1) 1 (declL d an cn sa cs):=by
 refine ⟨rfl,_,_,rfl,Nat.le_refl _,by unfold maxLen;omega,fun _=>⟨B,0,rfl,h.lt,fun j v hj=>?_⟩⟩;rw [Nat.zero_add];exact h.cell (by rw [List.getElem?_toArray];exact hj)
theorem zLa {w:World} {X:List Nat} {l:List ODecl} {a:Option Addr} {c:Nat} (h:Reads w X (declsT l) (.slice a l.length c)) (p:Nat) :
    ∃A C:List Value,ReadsL w X ((l.take p).flatMap declT) A∧ReadsL w X ((l.drop p).flatMap declT) C∧(p≤l.length→IsRow w 11 (.slice a p c) p A) ∧
      ∀a',p≤l.length→(∀b o,p<l.length→a=some ⟨b,o,none⟩→a'=some ⟨b,o+p * 11,none⟩)→IsRow w 11 (.slice a' (l.length - p) (c - p)) (l.length - p) C:=by
  obtain ⟨xs,hr,-,hx⟩:=Reads.toRow h
  refine ⟨xs.take (p * 11),xs.drop (p * 11),?_,?_,fun hp=>zSj hr hp,fun a' hp ha=>zNu hr hp ha⟩
  · have:=hx.take (p * 11);rwa [zKt] at this
  · have:=hx.drop (p * 11);rwa [zKu] at this
theorem zDy {w:World} {X:List Nat} {l:List ODecl} {a:Option Addr} {c:Nat} (h:Reads w X (declsT l) (.slice a l.length c)) {d:ODecl} (hl:l[0]?=some d) :
    ∃(b o:Nat) (an:Option Addr) (cn:Nat) (sa:Option Addr) (cs:Nat),a=some ⟨b,o,none⟩∧b<w.heap.size∧(∀(j:Nat) (u:Value),(declL d an cn sa cs)[j]?=some u→w.cell? ⟨b,o+j,none⟩=some u)∧ReadsL w X (declT d) (declL d an cn sa cs)∧DeclIn w d an cn sa cs∧Reads w X (strsT d.names) (.slice an d.names.length cn)∧Reads w X (subsT d.body.subs) (.slice sa d.body.subs.length cs):=by
  obtain ⟨b,o,an,cn,sa,cs,e,hb,hc,n1,n2,HN,s1,s2,HS⟩:=zAt h hl
  exact ⟨b,o,an,cn,sa,cs,e,hb,fun j u hj=>by have:=hc j u hj;rwa [Nat.zero_mul,Nat.add_zero] at this,zBl HN.o HS.o,⟨HN.o.fewer (by simp),HS.o.fewer (by simp),n1,n2,s1,s2⟩,HN.o,HS.o⟩
end Go.Proofs.YtfkjfdbjhlmjcaaGreatDoor
namespace Go.Proofs.YtfkjfdbjhlmjcaaGreatDoor
open Go.RowKit Go.Shelf
def blksF (R:List (Value×List OEdit)):List Nat:=R.flatMap fun q=>blk q.1
structure Fam (w0 w:World) (R:List (Value×List OEdit)):Prop where
  old:Below w0.heap.size w0 w
  rows:∀q∈R,∃xs,w.ownsRow w0.heap.size 39 5 q.1 q.2.length xs∧ReadsL w (blksF R) (q.2.flatMap editT) xs
  apart:R.Pairwise fun p q=>∀b,p.1.ownBlock=some b→q.1.ownBlock≠some b
theorem Fam.below {w0 w w':World} {R:List (Value×List OEdit)} (h:Fam w0 w R) (m:Bw w w'):Fam w0 w' R:=
 ⟨zA h.old m,fun q hq=>by obtain ⟨xs,h1,h2⟩:=h.rows q hq;exact ⟨xs,zAg h1 m,h2.below m⟩,h.apart⟩
theorem zCa {R:List (Value×List OEdit)} {k:Nat}:k∈blksF R↔∃q∈R,q.1.ownBlock=some k:=by
 unfold blksF;rw [List.mem_flatMap];exact ⟨fun ⟨q,h1,h2⟩=>⟨q,h1,zBd.1 h2⟩,fun ⟨q,h1,h2⟩=>⟨q,h1,zBd.2 h2⟩⟩
theorem Fam.lt {w0 w:World} {R:List (Value×List OEdit)} (h:Fam w0 w R) {k:Nat} (hk:k∈blksF R):w0.heap.size≤k∧k<w.heap.size:=by
 obtain ⟨q,hq,e⟩:=zCa.1 hk;obtain ⟨xs,h1,_⟩:=h.rows q hq;exact h1.lt k e
theorem Fam.grown {w0 w w':World} {P S:List (Value×List OEdit)} {v v':Value} {l l2:List OEdit} {xs news:List Value} (h:Fam w0 w (P++(v,l)::S))
    (h2:ReadsL w (blksF (P++(v,l)::S)) (l.flatMap editT) xs) (h3:ReadsL w (blksF (P++(v,l)::S)) (l2.flatMap editT) news) (ho:w'.ownsRow w0.heap.size 39 5 v' (l.length+l2.length) (xs++news)) (hg:w.grownBy w' v.ownBlock) (hb:v'.ownBlock=v.ownBlock∨v'.ownBlock=some w.heap.size):Fam w0 w' (P++(v',l++l2)::S):=by
  have m:=zAl hg
  have hsub:∀k∈blksF (P++(v',l++l2)::S),k=w.heap.size∨k∈blksF (P++(v,l)::S):=fun k hk=>by
    obtain ⟨q,hq,e⟩:=zCa.1 hk
    rcases List.mem_append.1 hq with hq|hq
    · exact .inr (zCa.2 ⟨q,List.mem_append_left _ hq,e⟩)
    rcases List.mem_cons.1 hq with rfl|hq
    · rcases hb with hb|hb
      · exact .inr (zCa.2 ⟨(v,l),List.mem_append_right _ (List.mem_cons_self ..),hb.symm.trans e⟩)
      · left;have:=hb.symm.trans e;injection this with this;exact this.symm
    · exact .inr (zCa.2 ⟨q,List.mem_append_right _ (List.mem_cons_of_mem _ hq),e⟩)
  have hmv:∀k∈v.ownBlock.toList,k∈blksF (P++(v,l)::S):=fun k hk=>zCa.2 ⟨(v,l),List.mem_append_right _ (List.mem_cons_self ..),by simpa using hk⟩
  have hrd:∀{L:List OEdit} {ys:List Value},ReadsL w (blksF (P++(v,l)::S)) (L.flatMap editT) ys→ReadsL w' (blksF (P++(v',l++l2)::S)) (L.flatMap editT) ys:=fun hr=>
    ((hr.more (Nat.le_refl _)).mod (m.mono fun k hk=>List.mem_cons_of_mem _ (hmv k hk))).fewer fun k hk=>by
      rcases hsub k hk with rfl|q
      · exact List.mem_cons_self
      · exact List.mem_cons_of_mem _ q
  obtain ⟨a1,a2,a3⟩:=List.pairwise_append.1 h.apart
  obtain ⟨b1,b2⟩:=List.pairwise_cons.1 a2
  have hoth:∀q,(q∈P∨q∈S)→∀b,q.1.ownBlock=some b→b∉v.ownBlock.toList:=fun q hq b e c=>by
    have c':v.ownBlock=some b:=by simpa using c
    rcases hq with hq|hq
    · exact a3 q hq (v,l) (List.mem_cons_self ..) b e c'
    · exact b1 q hq b c' e
  have hfr:∀q,(q∈P∨q∈S)→∀b,q.1.ownBlock=some b→b<w.heap.size:=fun q hq b e=>(h.lt (zCa.2 ⟨q,by
    rcases hq with hq|hq
    · exact List.mem_append_left _ hq
    · exact List.mem_append_right _ (List.mem_cons_of_mem _ hq),e⟩)).2
  have hnew:∀q,(q∈P∨q∈S)→∀b,q.1.ownBlock=some b→v'.ownBlock≠some b:=fun q hq b e c=>by
    rcases hb with hb|hb
    · exact hoth q hq b e (by rw [←hb,c];simp)
    · have:=hfr q hq b e
      rw [hb] at c
      injection c with c
      omega
  refine ⟨?_,fun q hq=>?_,?_⟩
  · exact h.old.trans (m.upto h.old.size fun k hk=>(h.lt (hmv k hk)).1)
  · rcases List.mem_append.1 hq with hq|hq
    · obtain ⟨ys,h4,h5⟩:=h.rows q (List.mem_append_left _ hq)
      exact ⟨ys,zBm h4 m (hoth q (.inl hq)),hrd h5⟩
    rcases List.mem_cons.1 hq with rfl|hq
    · refine ⟨xs++news,by rw [List.length_append];exact ho,?_⟩
      rw [List.flatMap_append]
      exact ReadsL.append (hrd h3) (hrd h2)
    · obtain ⟨ys,h4,h5⟩:=h.rows q (List.mem_append_right _ (List.mem_cons_of_mem _ hq))
      exact ⟨ys,zBm h4 m (hoth q (.inr hq)),hrd h5⟩
  · exact List.pairwise_append.2 ⟨a1,List.pairwise_cons.2 ⟨fun q hq b e c=>hnew q (.inr hq) b c e,b2⟩,fun p hp q hq b e=>by
      rcases List.mem_cons.1 hq with rfl|hq
      · exact hnew p (.inl hp) b e
      · exact a3 p hp q (List.mem_cons_of_mem _ hq) b e⟩
theorem Fam.reads {w0 w:World} {R:List (Value×List OEdit)} (h:Fam w0 w R) {q:Value×List OEdit} (hq:q∈R):Reads w [] (editsT q.2) q.1:=by
 obtain ⟨xs,h1,h2⟩:=h.rows q hq;exact Reads.ofRow (zAo h1) (fun _ b _=>by simp) (h2.fewer fun k hk=>by simp at hk)
theorem Fam.start (w0:World) (w:World) (hb:Bw w0 w) (n:Nat):Fam w0 w (List.replicate n (.slice none 0 0,[])):=
 ⟨hb,fun q hq=>by rw [List.eq_of_mem_replicate hq];exact ⟨[],World.ownsRow_nil _ _ _ _,ReadsL.nil _ _⟩,List.pairwise_replicate.2 (.inr fun b e=>by cases e)⟩
def noMod:OMod:=⟨⟨#[]⟩,[],[]⟩
def bothT (p:Pair):List Tree:=[strT p.label,.leaf (.bool p.a.isSome),.leaf (.bool p.b.isSome)]++modT (p.a.getD noMod)++modT (p.b.getD noMod)
theorem zNv (m:Option OMod):usesO m=(m.getD noMod).uses:=by cases m<;>rfl
theorem zFn (m:Option OMod):declsO m=(m.getD noMod).decls:=by cases m<;>rfl
def OwnP (w0 w:World) (B:Nat) (v:Value) (l:List Pair):Prop:=∃xs,w.ownsRow B 71 9 v l.length xs∧ReadsL w0 [] (l.flatMap bothT) xs
theorem OwnP.nil (w0 w:World) (B:Nat):OwnP w0 w B (.slice none 0 0) []:=⟨[],World.ownsRow_nil _ _ _ _,ReadsL.nil _ _⟩
theorem OwnP.reads {w0 w:World} {B:Nat} {v:Value} {l:List Pair} (h:OwnP w0 w B v l) (m:Bw w0 w):Reads w [] (rowT 9 bothT l) v:=by
 obtain ⟨xs,h1,h2⟩:=h;exact Reads.ofRow (zAo h1) (fun _ b _=>by simp) (h2.below m)
theorem zGg {α:Type} {size:Nat} {f:α→List Tree} (hf:∀x,(f x).length=size) {w:World} {X:List Nat} {x:α} {r:List α} {a:Option Addr} {c:Nat} (h:Reads w X (rowT size f (x::r)) (.slice a (r.length+1) c)) (a':Option Addr) (ha:∀b o,0<r.length→a=some ⟨b,o,none⟩→a'=some ⟨b,o+size,none⟩):Reads w X (rowT size f r) (.slice a' r.length (c - 1)):=by
  obtain ⟨xs,hr,hx0,hx⟩:=Reads.toRow h
  have hs:=zNu (k:=1) (a':=a') hr (by simp) (fun b o h1 h2=>by rw [Nat.one_mul];exact ha b o (by simp at h1;omega) h2)
  simp only [Nat.add_sub_cancel,Nat.one_mul] at hs
  refine Reads.ofRow hs (fun h0 b hb=>?_) ?_
  · obtain ⟨_,a1,cap,e,_,_,h3⟩:=hr
    injection e with e1 e2 e3
    subst e1
    obtain ⟨b',o,e,_,_⟩:=h3 (by simp)
    have:=ha b' o h0 e
    rw [this] at hb
    have hbb:b'=b:=by simpa [Value.ownBlock] using hb
    exact hx0 (by simp) b (by rw [e,←hbb];rfl)
  · have:=hx.drop size
    rw [List.flatMap_cons,List.drop_left' (hf x)] at this
    exact this
end Go.Proofs.YtfkjfdbjhlmjcaaGreatDoor

