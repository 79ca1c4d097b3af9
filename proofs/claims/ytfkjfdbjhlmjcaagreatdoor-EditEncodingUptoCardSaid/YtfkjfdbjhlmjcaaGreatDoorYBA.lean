/- Searching in ascending rows: -/
import Derived.Test.YtfkjfdbjhlmjcaaGreatDoorYPA
import Derived.Test.YtfkjfdbjhlmjcaaGreatDoorYShJ
import Derived.Shelf.Spec.SlicesInsertGrow
set_option maxRecDepth 100000
set_option maxHeartbeats 16000000
namespace Go.Proofs.YtfkjfdbjhlmjcaaGreatDoor
open Go.RowKit Go.Shelf
attribute [local go_sem] Oper.semAt_some
theorem zNa:∀a b:List UInt8,(Lib.compareBytes a b<0↔Op.bytesLess a b=true)∧(Lib.compareBytes a b=0↔a=b)
 | [],[]=>by simp [Lib.compareBytes,Op.bytesLess]
 | [],_::_=>by simp [Lib.compareBytes,Op.bytesLess]
 | _::_,[]=>by simp [Lib.compareBytes,Op.bytesLess]
 | x::a,y::b=>by
  have ih:=zNa a b;simp only [Lib.compareBytes,Op.bytesLess,Bool.or_eq_true,decide_eq_true_eq,Bool.and_eq_true,beq_iff_eq,List.cons.injEq]
  by_cases h1:x<y
  ·rw [if_pos h1]
   refine ⟨⟨fun _=>.inl h1,fun _=>(by decide)⟩,⟨fun h=>(by cases h),fun h=>?_⟩⟩;rw [h.1] at h1;exact absurd h1 (UInt8.lt_irrefl _)
  ·rw [if_neg h1]
   by_cases h2:y<x
   ·rw [if_pos h2]
    refine ⟨⟨fun h=>absurd h (by decide),fun h=>?_⟩,⟨fun h=>(by cases h),fun h=>?_⟩⟩
    ·rcases h with h|h
     ·exact absurd h h1
     ·rw [h.1] at h2;exact absurd h2 (UInt8.lt_irrefl _)
    ·rw [h.1] at h2;exact absurd h2 (UInt8.lt_irrefl _)
   ·rw [if_neg h2]
    have e:x=y:=by
     rcases Nat.lt_trichotomy x.toNat y.toNat with h|h|h
     ·exact absurd (UInt8.lt_iff_toNat_lt.2 h) h1
     ·exact UInt8.toNat_inj.1 h
     ·exact absurd (UInt8.lt_iff_toNat_lt.2 h) h2
    refine ⟨ih.1.trans ⟨fun h=>.inr ⟨e,h⟩,fun h=>?_⟩,ih.2.trans ⟨fun h=>⟨e,h⟩,fun h=>h.2⟩⟩
    rcases h with h|h
    ·exact absurd h h1
    ·exact h.2
theorem yDf (a b:ByteArray):decide (Lib.compareBytes a.data.toList b.data.toList<0)=ltB a b:=by
 rw [Bool.eq_iff_iff,decide_eq_true_eq,(zNa _ _).1,ltB,tl,tl]
theorem yDg (a b:ByteArray):Lib.compareBytes a.data.toList b.data.toList=0↔a=b:=(zNa _ _).2.trans ⟨yDd,fun h=>by rw [h]⟩
theorem zOq (a b:ByteArray) (w:World):Calls Tryz.prog 134 #[.string a,.string b] w fun e w'=>e=.returned (.int .i64 (Lib.compareBytes a.data.toList b.data.toList))∧w'=w:=Any.strings_Compare Tryz.cmpS a b w
theorem zEk (label s:ByteArray) (u v:Value) (w:World):Calls Tryz.prog 133 #[.agg #[.string label,u,v],.string s] w fun e w'=>e=.returned (.int .i64 (Lib.compareBytes label.data.toList s.data.toList))∧Bw w w':=by
 have HC:=fun w=>lH (zOq label s w);generalize Lib.compareBytes label.data.toList s.data.toList=r at *
 go_enter Tryz.func133,Tryz.ntmps133
 go_wp2_with (fail)
 refine (HC _).out.mono ?_;rintro e w1 ⟨rfl,rfl⟩;go_wp2;go_ret;exact ⟨rfl,zAa _ _⟩
theorem zNb {a b c:World} (h:Bw a b) (k:Bw b c):Bw a c:=zA h k
def inR (i:Int):Prop:=-4611686018427387904≤i∧i≤4611686018427387903
theorem zGd (d:ODecl) (i:Int) (an:Option Addr) (cn:Nat) (sa:Option Addr) (cs:Nat) (w:World) (h1:inR d.id) (h2:inR i):Calls Tryz.prog 127 #[declV d an cn sa cs,.int .i64 i] w fun e w'=>e=.returned (.int .i64 (d.id - i))∧Bw w w':=by
 have hw:IntKind.i64.wrap (d.id - i)=d.id - i:=IntWalk.i64_in _ (by unfold inR at *;omega);clear h1 h2;unfold declV
 go_enter Tryz.func127,Tryz.ntmps127
 go_wp2;go_ret;exact ⟨rfl,zAa _ _⟩
structure Srch {α κ:Type} (lt:κ→κ→Bool) (key:α→κ) (l:List α) (k:κ) (p:Nat) (f:Bool):Prop where
  le:p≤l.length
  lo:∀i x,l[i]?=some x→i<p→lt (key x) k=true
  hi:∀i x,l[i]?=some x→p≤i→lt (key x) k=false
  yes:f=true→∃x,l[p]?=some x∧key x=k
  no:f=false→∀x,l[p]?=some x→key x≠k
theorem zQj {α κ:Type} {lt:κ→κ→Bool} {key:α→κ} (S:SO lt) {l:List α} (h:Asc lt key l) (k:κ):Srch lt key l k (plc lt key l k) (look lt key l k).isSome:=by
 have h1:∀P R,l=P++R→P.length=plc lt key l k→(∀x∈P,lt (key x) k=true)→(∀x∈R,lt (key x) k=false)→(∀i x,l[i]?=some x→i<plc lt key l k→lt (key x) k=true)∧∀i x,l[i]?=some x→plc lt key l k≤i→lt (key x) k=false:=by
  intro P R hl hp a b
  constructor
  ·intro i x hx hi
   rw [hl,List.getElem?_append_left (by omega)] at hx;exact a x (List.mem_of_getElem? hx)
  ·intro i x hx hi
   rw [hl,List.getElem?_append_right (by omega)] at hx;exact b x (List.mem_of_getElem? hx)
 have asym:∀{a b:κ},lt a b=true→lt b a=false:=fun {a b} h=>by
  rw [←Bool.not_eq_true];intro c;have:=S.tr h c;rw [S.irr] at this;cases this
 obtain ⟨q1,q2⟩:(∀i x,l[i]?=some x→i<plc lt key l k→lt (key x) k=true)∧∀i x,l[i]?=some x→plc lt key l k≤i→lt (key x) k=false:=by
  rcases zOm S h k with ⟨P,R,y,hl,hp,hk,a1,a2⟩|⟨P,R,hl,hp,a1,a2⟩
  ·exact h1 P (y::R) hl hp a1 fun x hx=>by
    rcases List.mem_cons.1 hx with rfl|hx
    ·rw [hk,S.irr]
    ·exact asym (a2 x hx)
  ·exact h1 P R hl hp a1 fun x hx=>asym (a2 x hx)
 rcases zBc S h k with ⟨y,H⟩|H
 ·exact ⟨zJn _ _,q1,q2,fun _=>⟨y,H.elt,H.ky⟩,fun c=>by rw [H.look] at c;cases c⟩
 ·exact ⟨zJn _ _,q1,q2,fun c=>(by rw [H.look] at c;cases c),fun _=>H.elt⟩
theorem zZc (l:List OMod) (a:Option Addr) (c:Nat) (s:ByteArray) (w:World) (hr:Reads w [] (modsT l) (.slice a l.length c)) (ha:Asc ltB OMod.label l) (hn:l.length≤1000000) :
  Calls Tryz.prog 132 #[.slice a l.length c,.string s,.func (.func 133) #[] #[]] w fun e w'=>e=.returned (.tuple #[.int .i64 (plc ltB OMod.label l s:Nat),.bool (look ltB OMod.label l s).isSome])∧Bw w w':=by
 have HS:=lH (zQj zKl ha s);have HR:=lH hr;have hp:=HS.o.le;clear hr ha;generalize plc ltB OMod.label l s=p at *;generalize (look ltB OMod.label l s).isSome=f at *
 go_enter Tryz.func132,Tryz.ntmps132
 go_wp2
 go_loopw [9,10] (fun iv jv wr=>∃lo hi:Nat,iv=.int .i64 lo∧jv=.int .i64 hi∧lo≤p∧p≤hi∧hi≤l.length∧Bw w wr) (fun iv jv _=>(intOf jv).toNat - (intOf iv).toNat)
 case atStart=>exact ⟨0,l.length,rfl,rfl,Nat.zero_le _,hp,Nat.le_refl _,zAw _⟩
 case round=>
  obtain ⟨lo,hi,rfl,rfl,hlp,hph,hhl,hb⟩:=hrel
  by_cases hlt:lo<hi
  ·have hd:decide ((lo:Int)<(hi:Int))=true:=decide_eq_true (by omega)
   obtain ⟨q,hq⟩:∃q:Nat,q=(lo+hi) / 2:=⟨_,rfl⟩;have hql:q<l.length:=by omega
   obtain ⟨b,o,au,cu,ad,cd,rfl,hbl,c0,c1,c2,-⟩:=zBk (HR.o.below hb) (List.getElem?_eq_getElem hql);have hlo:=HS.o.lo q _ (List.getElem?_eq_getElem hql);have hhi:=HS.o.hi q _ (List.getElem?_eq_getElem hql);generalize l[q]=m at *;have HC:=fun w=>lH (zEk m.label s (.slice au m.uses.length cu) (.slice ad m.decls.length cd) w);have HLT:=yDf m.label s;generalize Lib.compareBytes m.label.data.toList s.data.toList=r at *;have hmid:((lo:Int)+(hi:Int)) / 2=(q:Int):=by omega
   have HQ:=lH hq;rw [←HLT] at hlo hhi;clear HS HR hq HLT;go_wp2_with (fail)
   refine (HC _).out.mono ?_;rintro e w1 ⟨rfl,hb1⟩;have hB1:=zNb hb hb1
   cases hlt2:decide (r<0) with
   | true=>
    have hqp:q<p:=Nat.lt_of_not_le fun c=>by rw [hhi c] at hlt2;cases hlt2
    clear hlo hhi;go_wp2;go_roundw
    case rel=>exact ⟨q+1,hi,by go_num,rfl,by omega,hph,hhl,hB1⟩
    case measure=>have:=HQ.o;simp [intOf];omega
   | false=>
    have hqp:p≤q:=Nat.le_of_not_lt fun c=>by rw [hlo c] at hlt2;cases hlt2
    clear hlo hhi;go_wp2;go_roundw
    case rel=>exact ⟨lo,q,rfl,rfl,hlp,hqp,by omega,hB1⟩
    case measure=>have:=HQ.o;simp [intOf];omega
  ·obtain rfl:lo=p:=by omega
   obtain rfl:hi=lo:=by omega
   by_cases hpl:hi<l.length
   ·obtain ⟨b,o,au,cu,ad,cd,rfl,hbl,c0,c1,c2,-⟩:=zBk (HR.o.below hb) (List.getElem?_eq_getElem hpl)
    have hy:=HS.o.yes;have hnn:=HS.o.no;rw [List.getElem?_eq_getElem hpl] at hy hnn;generalize l[hi]=m at *;have HC:=fun w=>lH (zEk m.label s (.slice au m.uses.length cu) (.slice ad m.decls.length cd) w);have HEQ:=yDg m.label s;generalize Lib.compareBytes m.label.data.toList s.data.toList=r at *
    have HF:Hid ((r==0)=f):=by
     show _=_
     cases f with
     | true=>obtain ⟨x,hx,e⟩:=hy rfl;injection hx with hx;subst hx;rw [HEQ.2 e];rfl
     | false=>have h5:=hnn rfl m rfl;have h6:¬r=0:=fun c=>h5 (HEQ.1 c);simpa using h6
    have hd:decide ((hi:Int)<(l.length:Int))=true:=decide_eq_true (by omega);clear HS HR hy hnn HEQ;go_wp2_with (fail)
    refine (HC _).out.mono ?_;rintro e w1 ⟨rfl,hb1⟩;have HB1:=lH (zNb hb hb1);clear HC hb hb1;go_wp2;go_ret2;exact ⟨by first|rfl|(rw [HF.o];rfl),HB1.o⟩
   ·have hd:decide ((hi:Int)<(l.length:Int))=false:=decide_eq_false (by omega)
    have hf:f=false:=by
     cases f with
     | false=>rfl
     | true=>obtain ⟨x,hx,_⟩:=HS.o.yes rfl;rw [List.getElem?_eq_none (by omega)] at hx;cases hx
    subst hf;have HB:=lH hb;clear HS HR hb;go_wp2;go_ret2;exact ⟨rfl,HB.o⟩
theorem zZd (l:List ODecl) (a:Option Addr) (c:Nat) (s:Int) (w:World) (hr:Reads w [] (declsT l) (.slice a l.length c)) (ha:Asc ltI ODecl.id l) (hR:∀d∈l,inR d.id) (hI:inR s)(hn:l.length≤1000000) :
  Calls Tryz.prog 126 #[.slice a l.length c,.int .i64 s,.func (.func 127) #[] #[]] w fun e w'=>e=.returned (.tuple #[.int .i64 (plc ltI ODecl.id l s:Nat),.bool (look ltI ODecl.id l s).isSome])∧Bw w w':=by
 have HS:=lH (zQj yBh ha s);have HR:=lH hr;have hp:=HS.o.le;clear hr ha;generalize plc ltI ODecl.id l s=p at *;generalize (look ltI ODecl.id l s).isSome=f at *
 go_enter Tryz.func126,Tryz.ntmps126
 go_wp2
 go_loopw [9,10] (fun iv jv wr=>∃lo hi:Nat,iv=.int .i64 lo∧jv=.int .i64 hi∧lo≤p∧p≤hi∧hi≤l.length∧Bw w wr) (fun iv jv _=>(intOf jv).toNat - (intOf iv).toNat)
 case atStart=>exact ⟨0,l.length,rfl,rfl,Nat.zero_le _,hp,Nat.le_refl _,zAw _⟩
 case round=>
  obtain ⟨lo,hi,rfl,rfl,hlp,hph,hhl,hb⟩:=hrel
  by_cases hlt:lo<hi
  ·have hd:decide ((lo:Int)<(hi:Int))=true:=decide_eq_true (by omega)
   obtain ⟨q,hq⟩:∃q:Nat,q=(lo+hi) / 2:=⟨_,rfl⟩;have hql:q<l.length:=by omega
   obtain ⟨b,o,an,cn,sa,cs,rfl,hbl,hc,-⟩:=zBa (HR.o.below hb) (List.getElem?_eq_getElem hql);have hlo:=HS.o.lo q _ (List.getElem?_eq_getElem hql);have hhi:=HS.o.hi q _ (List.getElem?_eq_getElem hql);have him:=hR _ (List.getElem_mem hql);generalize l[q]=m at *;have HC:=fun w=>lH (zGd m s an cn sa cs w him hI);have HLT:decide (m.id - s<0)=ltI m.id s:=by unfold ltI;rw [decide_eq_decide];omega
   generalize m.id - s=r at *;have c0:wr.cell? ⟨b,o+q * 11,none⟩=some (.int .i64 m.id):=hc 0 _ rfl;have c1:=hc 1 _ rfl;have c2:=hc 2 _ rfl;have c3:=hc 3 _ rfl;have c4:=hc 4 _ rfl;have c5:=hc 5 _ rfl;have c6:=hc 6 _ rfl;have c7:=hc 7 _ rfl;have c8:=hc 8 _ rfl;have c9:=hc 9 _ rfl;have c10:=hc 10 _ rfl;unfold declV at HC;clear hc him;have hmid:((lo:Int)+(hi:Int)) / 2=(q:Int):=by omega
   have HQ:=lH hq;rw [←HLT] at hlo hhi;clear HS HR hq HLT;go_wp2_with (fail)
   refine (HC _).out.mono ?_;rintro e w1 ⟨rfl,hb1⟩;have hB1:=zNb hb hb1
   cases hlt2:decide (r<0) with
   | true=>
    have hqp:q<p:=Nat.lt_of_not_le fun c=>by rw [hhi c] at hlt2;cases hlt2
    clear hlo hhi;go_wp2;go_roundw
    case rel=>exact ⟨q+1,hi,by go_num,rfl,by omega,hph,hhl,hB1⟩
    case measure=>have:=HQ.o;simp [intOf];omega
   | false=>
    have hqp:p≤q:=Nat.le_of_not_lt fun c=>by rw [hlo c] at hlt2;cases hlt2
    clear hlo hhi;go_wp2;go_roundw
    case rel=>exact ⟨lo,q,rfl,rfl,hlp,hqp,by omega,hB1⟩
    case measure=>have:=HQ.o;simp [intOf];omega
  ·obtain rfl:lo=p:=by omega
   obtain rfl:hi=lo:=by omega
   by_cases hpl:hi<l.length
   ·obtain ⟨b,o,an,cn,sa,cs,rfl,hbl,hc,-⟩:=zBa (HR.o.below hb) (List.getElem?_eq_getElem hpl)
    have hy:=HS.o.yes;have hnn:=HS.o.no;rw [List.getElem?_eq_getElem hpl] at hy hnn;have him:=hR _ (List.getElem_mem hpl);generalize l[hi]=m at *;have HC:=fun w=>lH (zGd m s an cn sa cs w him hI);have HEQ:m.id - s=0↔m.id=s:=by omega
    generalize m.id - s=r at *;have c0:wr.cell? ⟨b,o+hi * 11,none⟩=some (.int .i64 m.id):=hc 0 _ rfl;have c1:=hc 1 _ rfl;have c2:=hc 2 _ rfl;have c3:=hc 3 _ rfl;have c4:=hc 4 _ rfl;have c5:=hc 5 _ rfl;have c6:=hc 6 _ rfl;have c7:=hc 7 _ rfl;have c8:=hc 8 _ rfl;have c9:=hc 9 _ rfl;have c10:=hc 10 _ rfl;unfold declV at HC;clear hc him
    have HF:Hid ((r==0)=f):=by
     show _=_
     cases f with
     | true=>obtain ⟨x,hx,e⟩:=hy rfl;injection hx with hx;subst hx;rw [HEQ.2 e];rfl
     | false=>have h5:=hnn rfl m rfl;have h6:¬r=0:=fun c=>h5 (HEQ.1 c);simpa using h6
    have hd:decide ((hi:Int)<(l.length:Int))=true:=decide_eq_true (by omega);clear HS HR hy hnn HEQ;go_wp2_with (fail)
    refine (HC _).out.mono ?_;rintro e w1 ⟨rfl,hb1⟩;have HB1:=lH (zNb hb hb1);clear HC hb hb1;go_wp2;go_ret2;exact ⟨by first|rfl|(rw [HF.o];rfl),HB1.o⟩
   ·have hd:decide ((hi:Int)<(l.length:Int))=false:=decide_eq_false (by omega)
    have hf:f=false:=by
     cases f with
     | false=>rfl
     | true=>obtain ⟨x,hx,_⟩:=HS.o.yes rfl;rw [List.getElem?_eq_none (by omega)] at hx;cases hx
    subst hf;have HB:=lH hb;clear HS HR hb;go_wp2;go_ret2;exact ⟨rfl,HB.o⟩
theorem zKq (l:List OMod) (a:Option Addr) (c:Nat) (s:ByteArray) (w:World) (hr:Reads w [] (modsT l) (.slice a l.length c)) (ha:Asc ltB OMod.label l) (hn:l.length≤1000000) :
  Calls Tryz.prog 82 #[.slice a l.length c,.string s] w fun e w'=>e=.returned (.tuple #[.int .i64 (plc ltB OMod.label l s:Nat),.bool (look ltB OMod.label l s).isSome])∧Bw w w':=by
 have HC:=lH (zZc l a c s w hr ha  hn);generalize plc ltB OMod.label l s=p at *;generalize (look ltB OMod.label l s).isSome=f at *;clear hr ha
 go_enter Tryz.func82,Tryz.ntmps82
 go_wp2_with (fail)
 refine HC.o.mono ?_;rintro e w1 ⟨rfl,hb1⟩;go_wp2;go_ret2;exact ⟨rfl,hb1⟩
theorem zHv (l:List ODecl) (a:Option Addr) (c:Nat) (s:Int) (w:World) (hr:Reads w [] (declsT l) (.slice a l.length c)) (ha:Asc ltI ODecl.id l) (hR:∀d∈l,inR d.id) (hI:inR s)(hn:l.length≤1000000) :
  Calls Tryz.prog 76 #[.slice a l.length c,.int .i64 s] w fun e w'=>e=.returned (.tuple #[.int .i64 (plc ltI ODecl.id l s:Nat),.bool (look ltI ODecl.id l s).isSome])∧Bw w w':=by
 have HC:=lH (zZd l a c s w hr ha hR hI hn);generalize plc ltI ODecl.id l s=p at *;generalize (look ltI ODecl.id l s).isSome=f at *;clear hr ha
 go_enter Tryz.func76,Tryz.ntmps76
 go_wp2_with (fail)
 refine HC.o.mono ?_;rintro e w1 ⟨rfl,hb1⟩;go_wp2;go_ret2;exact ⟨rfl,hb1⟩
theorem zVz {a b:ByteArray} (h:a≠b):(a.toList==b.toList)=false:=by
 rw [←Bool.not_eq_true];exact fun c=>h (zJd.1 c)
theorem zW (x y:ByteArray) (w:World):Calls Tryz.prog 122 #[.string x,.string y] w fun e w'=>e=.returned (.bool (ltB x y))∧w'=w:=by
 have h:Op.bytesLess x.toList y.toList=ltB x y:=rfl;generalize ltB x y=r at *
 go_enter Tryz.func122,Tryz.ntmps122
 go_wp2;go_ret;exact ⟨rfl,rfl⟩
theorem zSa (l:List ByteArray) (a:Option Addr) (c:Nat) (s:ByteArray) (w:World) (hr:Strs w (.slice a l.length c) l) (ha:Asc ltB id l) (hn:l.length≤1000000) :
  Calls Tryz.prog 71 #[.slice a l.length c,.string s] w fun e w'=>e=.returned (.tuple #[.int .i64 (plc ltB id l s:Nat),.bool (look ltB id l s).isSome])∧Bw w w':=by
 have HS:=lH (zQj zKl ha s);have hp:=HS.o.le;obtain ⟨_,_,e,hlc,hcm,hcell⟩:=hr.shape
 cases e
 have HR:=lH hcell;have HL:=fun x w=>lH (zW x s w);clear hr ha hcell;generalize plc ltB id l s=p at *;generalize (look ltB id l s).isSome=f at *
 go_enter Tryz.func71,Tryz.ntmps71
 go_wp2
 go_loopw [7,8] (fun iv jv wr=>∃lo hi:Nat,iv=.int .i64 lo∧jv=.int .i64 hi∧lo≤p∧p≤hi∧hi≤l.length∧Bw w wr) (fun iv jv _=>(intOf jv).toNat - (intOf iv).toNat)
 case atStart=>exact ⟨0,l.length,rfl,rfl,Nat.zero_le _,hp,Nat.le_refl _,zAw _⟩
 case round=>
  obtain ⟨lo,hi,rfl,rfl,hlp,hph,hhl,hb⟩:=hrel
  by_cases hlt:lo<hi
  ·have hd:decide ((lo:Int)<(hi:Int))=true:=decide_eq_true (by omega)
   obtain ⟨q,hq⟩:∃q:Nat,q=(lo+hi) / 2:=⟨_,rfl⟩;have hql:q<l.length:=by omega
   obtain ⟨b,o,rfl,hbl,hc⟩:=HR.o q hql;have c0:wr.cell? ⟨b,o+q,none⟩=some (.string (sAt l q)):=(hb.cell (p:=⟨b,_,none⟩) hbl).trans (hc q hql);rw [zOf hql] at c0;have hlo:=HS.o.lo q _ (List.getElem?_eq_getElem hql);have hhi:=HS.o.hi q _ (List.getElem?_eq_getElem hql);simp only [id] at hlo hhi
   generalize l[q]=m at *;have HLM:=HL m;have hmid:((lo:Int)+(hi:Int)) / 2=(q:Int):=by omega
   have HQ:=lH hq;generalize ltB m s=r at *;clear HS HR hq hc HL;go_wp2_with (fail)
   refine (HLM _).out.mono ?_;rintro e w1 ⟨rfl,rfl⟩
   cases r with
   | true=>
    have hqp:q<p:=Nat.lt_of_not_le fun c=>by have:=hhi c;cases this
    clear hlo hhi;go_wp2;go_roundw
    case rel=>exact ⟨q+1,hi,by go_num,rfl,by omega,hph,hhl,hb⟩
    case measure=>have:=HQ.o;simp [intOf];omega
   | false=>
    have hqp:p≤q:=Nat.le_of_not_lt fun c=>by have:=hlo c;cases this
    clear hlo hhi;go_wp2;go_roundw
    case rel=>exact ⟨lo,q,rfl,rfl,hlp,hqp,by omega,hb⟩
    case measure=>have:=HQ.o;simp [intOf];omega
  ·obtain rfl:lo=p:=by omega
   obtain rfl:hi=lo:=by omega
   by_cases hpl:hi<l.length
   ·obtain ⟨b,o,rfl,hbl,hc⟩:=HR.o hi hpl
    have c0:wr.cell? ⟨b,o+hi,none⟩=some (.string (sAt l hi)):=(hb.cell (p:=⟨b,_,none⟩) hbl).trans (hc hi hpl);rw [zOf hpl] at c0;have hy:=HS.o.yes;have hnn:=HS.o.no;rw [List.getElem?_eq_getElem hpl] at hy hnn;generalize l[hi]=m at *
    have HF:(m.toList==s.toList)=f:=by
     cases f with
     | true=>obtain ⟨x,hx,e⟩:=hy rfl;injection hx with hx;subst hx;have e:m=s:=e;rw [e];simp
     | false=>have h5:=hnn rfl m rfl;exact zVz h5
    have hd:decide ((hi:Int)<(l.length:Int))=true:=decide_eq_true (by omega);have HB:=lH hb;clear HS HR hy hnn hb hc HL
    cases f with
    | true=>
     go_wp2;go_ret2;exact ⟨rfl,HB.o⟩
    | false=>
     go_wp2;go_ret2;exact ⟨rfl,HB.o⟩
   ·have hd:decide ((hi:Int)<(l.length:Int))=false:=decide_eq_false (by omega)
    have hf:f=false:=by
     cases f with
     | false=>rfl
     | true=>obtain ⟨x,hx,_⟩:=HS.o.yes rfl;rw [List.getElem?_eq_none (by omega)] at hx;cases hx
    subst hf;have HB:=lH hb;clear HS HR hb HL;go_wp2;go_ret2;exact ⟨rfl,HB.o⟩
theorem zBm {P:Program} (w:World) (dT sT ty elem:TypeId) (sz g o dLen dCap:Nat) (a:Addr) (sLen sCap:Nat) (cur:Array Value) (t:TypeId) (cs:List Value)
    (hu:P.underlying dT=some (.slice elem)) (hs:(P.info? elem).map (·.size)=some sz) (hg:w.heap[g]?=some (.cells cur t (0,0)))
    (hn:cs.length=Nat.min sLen dLen * sz) (hsrc:∀j v,cs[j]?=some v→w.cell? (a.add j)=some v) (hfit:o+cs.length≤cur.size) (h1:∀v∈cs,v.oneCell'=true) :
    (Builtin.copy_ #[dT,sT] ty #[.slice (some ⟨g,o,none⟩) dLen dCap,.slice (some a) sLen sCap]).run P w=.ok (goInt (Nat.min sLen dLen)) (w.setRow g (cur.toList.take o++cs++cur.toList.drop (o+cs.length)).toArray):=by
  have hl:=run_loadCells_list (P:=P) w a cs hsrc
  have hst:=run_storeCells_at P g o t cs 0 cur w hg (by omega) h1
  rw [Nat.add_zero] at hst
  cases hq:P.info? elem with
  | none=>simp [hq] at hs
  | some i=>
    have hi:i.size=sz:=by simpa [hq] using hs
    simp [Builtin.copy_,run_underlying hu,Builtin.lenOf,Builtin.firstCells,sizeOf,typeInfo,hq,hi,←hn,hl,hst]
theorem zHa {P:Program} (w:World) (t e ty:TypeId) (z:Value) (ht:P.underlying t=some (.slice e)) (hv:∀w,(zeroValue e).run P w=.ok z w) (hz1:∀v∈z.cells,v.oneCell'=true) (g o n c:Nat) (cur:Array Value) (te:TypeId)
    (hg:w.heap[g]?=some (.cells cur te (0,0))) (hn:0<n) (hfit:o+(Builtin.zeroCells z.cells n).size≤cur.size) :
    (Builtin.clear_ #[t] ty #[.slice (some ⟨g,o,none⟩) n c]).run P w=.ok (.tuple #[]) (w.setRow g (cur.toList.take o++(Builtin.zeroCells z.cells n).toList++cur.toList.drop (o+(Builtin.zeroCells z.cells n).size)).toArray):=by
  have h1:∀v∈(Builtin.zeroCells z.cells n).toList,v.oneCell'=true:=by
    intro v hv'
    rw [Array.mem_toList_iff] at hv'
    unfold Builtin.zeroCells at hv'
    obtain ⟨j,hj,rfl⟩:=Array.mem_iff_getElem.1 hv'
    simp only [Array.size_map,Array.size_range] at hj
    simp only [Array.getElem_map,Array.getElem_range]
    have hpos:0<z.cells.size:=by
      rcases Nat.eq_zero_or_pos z.cells.size with h|h
      · rw [h] at hj;simp at hj
      · exact h
    have hm:=Nat.mod_lt j hpos
    rw [getElem!_pos z.cells _ hm]
    exact hz1 _ (Array.getElem_mem _)
  have hst:=run_storeCells_at P g o te (Builtin.zeroCells z.cells n).toList 0 cur w hg (by simpa using hfit) h1
  rw [Nat.add_zero] at hst
  obtain ⟨m,rfl⟩:∃m,n=m+1:=⟨n - 1,by omega⟩
  simp [Builtin.clear_,run_underlying ht,hv,hst]
theorem zFc {w:World} {b:Nat} {cs:Array Value} {t:TypeId} {m:Nat×Nat} (h:w.heap[b]?=some (.cells cs t m)):w.shape? b=some (t,cs.size):=by simp [World.shape?,h]
theorem zDl {w:World} {b:Nat} {cs:Array Value} {t:TypeId} (h:w.heap[b]?=some (.cells cs t (0,0))) (o:Nat):w.frozen? ⟨b,o,none⟩=false:=by simp [World.frozen?,h]
theorem zBo {w:World} {b:Nat} {cs:Array Value} {t:TypeId} {m:Nat×Nat} (h:w.heap[b]?=some (.cells cs t m)) {j:Nat} {u:Value} (hj:cs[j]?=some u):w.cell? ⟨b,j,none⟩=some u:=by
 simp [World.cell?,h,hj]
theorem zBs {w:World} {g k:Nat} (cs:Array Value) (h:k≠g):(w.setRow g cs).heap[k]?=w.heap[k]?:=by
 unfold World.setRow;rw [Array.getElem?_modify,if_neg h.symm]
theorem zAr {X:List Nat} {a w:World} (h:Mod X a w) {g:Nat} (hg:g∈X) (cs:Array Value):Mod X a (w.setRow g cs):=
 ⟨h.os,h.tape,h.output,by rw [show (w.setRow g cs).heap.size=w.heap.size from Array.size_modify ..];exact h.size,fun k hk hx=>by rw [zBs cs (fun c=>hx (by rw [c];exact hg))];exact h.block k hk hx⟩
theorem zId:(Tryz.prog.info? 9).map (fun i=>(i.zero.map (fun z=>z.cells.size),i.size,i.bytes))=some (some 1,1,16):=by kernel_rfl
theorem zWa (base g n cap i vb:Nat) (cur:Array Value) (xs vs:List Value) (w:World) (hg:w.heap[g]?=some (.cells cur 52 (0,0))) (hcur:cur.size=cap * 3) (hx:cur.toList.take (n * 3)=xs) (hbg:base≤g)
  (hi:i<n) (hn:n≤1000000) (hroom:n+1≤cap) (hc63:cap≤9223372036854775807) (hvl:vs.length=3) (hvb:w.heap[vb]?=some (.cells vs.toArray 52 (0,0))) (hne:vb≠g) (h1:∀u∈xs,u.oneCell'=true) (h2:∀u∈vs,u.oneCell'=true) :
  Calls Tryz.prog 83 #[.slice (some ⟨g,0,none⟩) n cap,.int .i64 i,.slice (some ⟨vb,0,none⟩) 1 1] w fun e w'=>e=.returned (.slice (some ⟨g,0,none⟩) (n+1) cap)∧w'.ownsRow base 52 3 (.slice (some ⟨g,0,none⟩) (n+1) cap) (n+1) (xs.take (i * 3)++vs++xs.drop (i * 3))∧Mod [g] w w':=by
 have hov:∀o lb cb,(callFunc 135 #[.slice (some ⟨vb,0,none⟩) 1 1,.slice (some ⟨g,o,none⟩) lb cb]).run Tryz.prog w=.ok (.value (.bool false)) w:=fun o lb cb=>by
  rw [run_callFunc_extern Tryz.func135 (by kernel_rfl) (by kernel_rfl) (by kernel_rfl) (e:=Extern.SlicesOverlaps.overlaps #[22,22] #[4]) (by kernel_rfl),
   Lib.run_overlaps_apart w 22 4 52 Tryz.underlying22 3 Tryz.sizeOf52 ⟨vb,0,none⟩ ⟨g,o,none⟩ 1 1 lb cb hne _ _ _ _ (zFc hvb) (zFc hg) (by omega) (zDl hvb 0) (zDl hvb _)]
  rfl
 have hsz:(Tryz.prog.info? 52).map (·.size)=some 3:=by
  obtain ⟨i0,z,hi0,_,_,hs,_⟩:=zAj zJi;rw [hi0];simp [hs]
 have hl:cur.toList.length=cap * 3:=by simpa using hcur
 have hxl:xs.length=n * 3:=by rw [←hx,List.length_take,hl];omega
 obtain ⟨c1,hc1⟩:∃c1:Array Value,c1=(cur.toList.take ((i+1) * 3)++xs.drop (i * 3)++cur.toList.drop ((i+1) * 3+(xs.drop (i * 3)).length)).toArray:=⟨_,rfl⟩;obtain ⟨c2,hc2⟩:∃c2:Array Value,c2=(c1.toList.take (i * 3)++vs++c1.toList.drop (i * 3+vs.length)).toArray:=⟨_,rfl⟩;have hdl:(xs.drop (i * 3)).length=(n - i) * 3:=by rw [List.length_drop,hxl];try omega
 have hs1:c1.toList.length=cap * 3:=by rw [hc1];simp only [List.length_append,List.length_take,List.length_drop,hl,hxl];omega
 have htk:c2.toList.take ((n+1) * 3)=xs.take (i * 3)++vs++xs.drop (i * 3)∧c2.size=cap * 3:=by
  have e1:c1.toList.take (i * 3)=xs.take (i * 3):=by
   rw [hc1,List.append_assoc,List.take_append_of_le_length (by rw [List.length_take,hl];omega),List.take_take,←hx,List.take_take]
   congr 1;omega
  have e2:c1.toList.drop (i * 3+vs.length)=xs.drop (i * 3)++cur.toList.drop ((i+1) * 3+(xs.drop (i * 3)).length):=by
   rw [hc1,List.append_assoc,List.drop_append_of_le_length (by rw [List.length_take,hl];omega),List.drop_eq_nil_of_le (by rw [List.length_take,hl];omega),List.nil_append]
  constructor
  ·rw [hc2,e1,e2,←List.append_assoc]
   refine List.take_left' ?_;simp only [List.length_append,List.length_take,List.length_drop,hxl];omega
  ·rw [←Array.length_toList,hc2,e1,e2];simp only [List.length_append,List.length_take,List.length_drop,hl,hxl];omega
 have hgw:w.drew.heap[g]?=some (.cells cur 52 (0,0)):=hg
 have hcp1:∀ty dc sc,(Builtin.copy_ #[22,22] ty #[.slice (some ⟨g,(i+1) * 3,none⟩) (n - i) dc,.slice (some ⟨g,i * 3,none⟩) (n+1 - i) sc]).run Tryz.prog w.drew=.ok (goInt (Nat.min (n+1 - i) (n - i))) (w.drew.setRow g c1):=fun ty dc sc=>by
  rw [hc1]
  exact zBm w.drew _ _ ty 52 3 g ((i+1) * 3) _ dc ⟨g,i * 3,none⟩ _ sc cur _ (xs.drop (i * 3)) Tryz.underlying22 hsz hgw (by rw [hdl];simp only [Nat.min_def];split<;>congr 1<;>omega)
   (fun j v hj=>by
    rw [Addr.add_lit];rw [List.getElem?_drop] at hj;refine zBo hgw ?_
    rw [←Array.getElem?_toList,←List.getElem?_take_of_lt (j:=n * 3) (by have:=(List.getElem?_eq_some_iff.1 hj).1;omega),hx];exact hj)
   (by rw [hdl,hcur];omega) (fun v hv=>h1 v (List.mem_of_mem_drop hv))
 obtain ⟨W1,hW1⟩:∃W1,W1=w.drew.setRow g c1:=⟨_,rfl⟩;have hg1:W1.heap[g]?=some (.cells c1 52 (0,0)):=by rw [hW1];exact setRow_heap _ g cur c1 _ _ hgw
 have hv1:W1.heap[vb]?=some (.cells vs.toArray 52 (0,0)):=by rw [hW1,zBs _ hne];exact hvb
 have hcp2:∀ty dc,(Builtin.copy_ #[22,22] ty #[.slice (some ⟨g,i * 3,none⟩) (n+1 - i) dc,.slice (some ⟨vb,0,none⟩) 1 1]).run Tryz.prog W1=.ok (goInt (Nat.min 1 (n+1 - i))) (W1.setRow g c2):=fun ty dc=>by
  rw [hc2]
  exact zBm W1 _ _ ty 52 3 g (i * 3) _ dc ⟨vb,0,none⟩ 1 1 c1 _ vs Tryz.underlying22 hsz hg1 (by rw [hvl];simp only [Nat.min_def];rw [if_pos (by omega)])
   (fun j v hj=>by rw [Addr.add_lit,Nat.zero_add];exact zBo hv1 (by rw [List.getElem?_toArray];exact hj)) (by rw [←Array.length_toList,hs1,hvl];omega) h2
 have HM:Hid (Mod [g] w (W1.setRow g c2)):=zAr (by rw [hW1];exact zAr (Mod.refl _ w).drew (List.mem_singleton.2 rfl) _) (List.mem_singleton.2 rfl) _
 have HO:Hid ((W1.setRow g c2).ownsRow base 52 3 (.slice (some ⟨g,0,none⟩) (n+1) cap) (n+1) (xs.take (i * 3)++vs++xs.drop (i * 3))):=
  ⟨by simp only [List.length_append,List.length_take,List.length_drop,hxl,hvl];omega,.inr ⟨g,cap,c2,rfl,hbg,setRow_heap _ g c1 c2 _ _ hg1,hroom,by unfold maxLen;omega,by rw [htk.2];try omega,by first|exact htk.1|simpa using htk.1⟩⟩
 rw [←hW1] at hcp1;have hw1:IntKind.i64.wrap ((i:Int)+1)=(i:Int)+1:=by rw [IntKind.wrap_i64];omega
 have hb1:(0:Int)≤(i:Int)+1:=by omega
 have htn:((i:Int)+1).toNat=i+1:=by omega
 have hb2:¬(cap=i+1):=by omega
 have hb3:(i:Int)≤(n:Int)+1:=by omega
 have hb4:¬(cap=i):=by omega
 have hin:i≤n:=by omega
 have mixed:=zAv;clear hW1 hg1 hv1 hc1 hc2 htk hs1 hdl hxl hl hgw hcur hx h1 h2 hvl hg hvb
 go_enter Tryz.func83,Tryz.ntmps83
 go_wp2_with (simp only [hov])
 go_region_law_o (refine step_copy_runI rfl _ _ 22 22 rfl (.slice (some ⟨g,(i+1) * 3,none⟩) (n - i) (cap - (i+1))) (.slice (some ⟨g,i * 3,none⟩) (n+1 - i) (cap - i)) (by simp [Act.eval,Act.put]) (by simp [Act.eval,Act.put]) (hcp1 _ _ _) ?_)
 go_wp2_with (at_builtin;refine wpList_copy_runI _ rfl _ _ 22 22 rfl _ _ rfl rfl (hcp2 _ _) ?_)
 go_ret;exact ⟨rfl,HO.o,HM.o⟩
theorem zWb (base g n cap i vb:Nat) (cur:Array Value) (xs vs:List Value) (w:World) (hg:w.heap[g]?=some (.cells cur 52 (0,0))) (hcur:cur.size=cap * 3) (hx:cur.toList.take (n * 3)=xs) (hbase:base≤w.heap.size)
  (hi:i<n) (hn:n≤1000000) (hnc:n≤cap) (hroom:cap<n+1) (hvl:vs.length=3) (hvb:w.heap[vb]?=some (.cells vs.toArray 52 (0,0))) (h1:∀u∈xs,u.oneCell'=true) (h2:∀u∈vs,u.oneCell'=true) :
  Calls Tryz.prog 83 #[.slice (some ⟨g,0,none⟩) n cap,.int .i64 i,.slice (some ⟨vb,0,none⟩) 1 1] w fun e w'=>∃G,e=.returned (.slice (some ⟨w.heap.size,0,none⟩) (n+1) G)∧w'.ownsRow base 52 3 (.slice (some ⟨w.heap.size,0,none⟩) (n+1) G) (n+1) (xs.take (i * 3)++vs++xs.drop (i * 3))∧Mod [] w w':=by
 obtain ⟨i0,z,hi0,hz,hzs,hs,hby⟩:=zAj zJi;have hsz:(Tryz.prog.info? 52).map (·.size)=some 3:=by rw [hi0];simp [hs]
 have hl:cur.toList.length=cap * 3:=by simpa using hcur
 have hxl:xs.length=n * 3:=by rw [←hx,List.length_take,hl];omega
 have hdl:(xs.drop (i * 3)).length=(n - i) * 3:=by rw [List.length_drop,hxl];try omega
 have hgl:g<w.heap.size:=(Array.getElem?_eq_some_iff.1 hg).1;have hvlt:vb<w.heap.size:=(Array.getElem?_eq_some_iff.1 hvb).1;obtain ⟨G,hG⟩:∃G,G=grownCap w (n+1) cap 52:=⟨_,rfl⟩;have hGn:n+1≤G:=by rw [hG];exact grownCap_ge w _ _ _
 have hG63:G≤maxLen:=by rw [hG];exact grownCap_le_maxLen w _ _ _ (by unfold maxLen;omega)
 have hkk:(n:Int)+1 - (i:Int)=((n+1 - i:Nat):Int):=by omega
 have hik:i+(n+1 - i)=n+1:=by omega
 have hxcell:∀(W:World),W.heap[g]?=some (.cells cur 52 (0,0))→∀j v,xs[j]?=some v→W.cell? ⟨g,j,none⟩=some v:=fun W hW j v hj=>by
  refine zBo hW ?_;rw [←Array.getElem?_toList,←List.getElem?_take_of_lt (j:=n * 3) (by have:=(List.getElem?_eq_some_iff.1 hj).1;omega),hx];exact hj
 have hold:(Builtin.firstCells i0.size i (.slice (some ⟨g,0,none⟩) i cap)).run Tryz.prog w.drew=.ok (xs.take (i * 3)).toArray w.drew:=by
  rw [hs]
  exact run_firstCells_some w.drew 3 i ⟨g,0,none⟩ i cap (xs.take (i * 3)) (by rw [List.length_take,hxl];omega) (fun j v hj=>by
   rw [Addr.add_lit,Nat.zero_add];rw [List.getElem?_take] at hj;split at hj
   ·exact hxcell w.drew hg j v hj
   ·cases hj)
 obtain ⟨c0,hc0⟩:∃c0:Array Value,c0=(xs.take (i * 3)).toArray++Builtin.zeroCells z.cells (n+1 - i)++Builtin.zeroCells z.cells (G - (n+1)):=⟨_,rfl⟩
 have hrz:∀ty,(Builtin.append_ #[22,3] ty #[.slice (some ⟨g,0,none⟩) i cap,.int .i64 ((n:Int)+1 - (i:Int))]).run Tryz.prog w=.ok (.slice (some ⟨w.heap.size,0,none⟩) (n+1) G) (w.drew.alloc (.cells c0 52)):=fun ty=>by
  have h:=Lib.run_append_grow_zeros w 22 3 ty 52 i0 z .i64 .i64 Tryz.underlying22 Tryz.underlying3 hi0 hz (some ⟨g,0,none⟩) i cap (xs.take (i * 3)) hold (n+1 - i) (by omega) (by omega) (by omega) (by omega) (by rw [hby];omega) (by rw [hby,hik];exact growslice_fits hroom (by omega));rw [hik] at h;rw [hkk,hc0,hG];exact h
 have hs0:c0.size=G * 3:=by
  rw [hc0];simp only [Array.size_append,size_zeroCells,List.size_toArray,List.length_take,hxl,hzs];omega
 have hl0:c0.toList.length=G * 3:=by rw [Array.length_toList];exact hs0
 obtain ⟨W0,hW0⟩:∃W0,W0=w.drew.alloc (.cells c0 52):=⟨_,rfl⟩;rw [←hW0] at hrz;obtain ⟨N,hN⟩:∃N,N=w.heap.size:=⟨_,rfl⟩;have hg0:W0.heap[N]?=some (.cells c0 52 (0,0)):=by rw [hW0,hN];exact heap_alloc_new w.drew _
 have hgg:∀k,k<N→W0.heap[k]?=w.heap[k]?:=fun k hk=>by rw [hW0];exact (World.grownBy_alloc w.drew _ none).block k (by rw [hN] at hk;exact hk) (by simp)
 obtain ⟨c1,hc1⟩:∃c1:Array Value,c1=(c0.toList.take (i * 3)++vs++c0.toList.drop (i * 3+vs.length)).toArray:=⟨_,rfl⟩;obtain ⟨c2,hc2⟩:∃c2:Array Value,c2=(c1.toList.take ((i+1) * 3)++xs.drop (i * 3)++c1.toList.drop ((i+1) * 3+(xs.drop (i * 3)).length)).toArray:=⟨_,rfl⟩;have hs1:c1.toList.length=G * 3:=by rw [hc1];simp only [List.length_append,List.length_take,List.length_drop,hl0,hvl];omega
 have e0:c0.toList.take (i * 3)=xs.take (i * 3):=by
  rw [hc0,Array.toList_append,Array.toList_append,List.append_assoc,List.take_append_of_le_length (by simp only [List.length_take,hxl];omega),List.take_of_length_le (by simp only [List.length_take,hxl];omega)]
 have htk:c2.toList.take ((n+1) * 3)=xs.take (i * 3)++vs++xs.drop (i * 3)∧c2.size=G * 3:=by
  have e1:c1.toList.take ((i+1) * 3)=xs.take (i * 3)++vs:=by
   rw [hc1,e0];refine List.take_left' ?_;simp only [List.length_append,List.length_take,hxl,hvl];omega
  constructor
  ·rw [hc2,e1]
   refine List.take_left' ?_;simp only [List.length_append,List.length_take,List.length_drop,hxl,hvl];omega
  ·rw [←Array.length_toList,hc2];simp only [List.length_append,List.length_take,List.length_drop,hs1,hxl];omega
 have hcpA:∀ty dc,(Builtin.copy_ #[22,22] ty #[.slice (some ⟨N,i * 3,none⟩) (n+1 - i) dc,.slice (some ⟨vb,0,none⟩) 1 1]).run Tryz.prog W0=.ok (goInt (Nat.min 1 (n+1 - i))) (W0.setRow N c1):=fun ty dc=>by
  rw [hc1]
  exact zBm W0 _ _ ty 52 3 N (i * 3) _ dc ⟨vb,0,none⟩ 1 1 c0 _ vs Tryz.underlying22 hsz hg0 (by rw [hvl];simp only [Nat.min_def];rw [if_pos (by omega)])
   (fun j v hj=>by rw [Addr.add_lit,Nat.zero_add];exact zBo ((hgg vb (by omega)).trans hvb) (by rw [List.getElem?_toArray];exact hj)) (by rw [hs0,hvl];omega) h2
 obtain ⟨W1,hW1⟩:∃W1,W1=W0.setRow N c1:=⟨_,rfl⟩;have hg1:W1.heap[N]?=some (.cells c1 52 (0,0)):=by rw [hW1];exact setRow_heap _ N c0 c1 _ _ hg0
 have hgs1:W1.drew.heap[g]?=some (.cells cur 52 (0,0)):=by show W1.heap[g]?=_;rw [hW1,zBs _ (by omega),hgg g (by omega)];exact hg
 have hcpB:∀ty dc sc,(Builtin.copy_ #[22,22] ty #[.slice (some ⟨N,(i+1) * 3,none⟩) (n - i) dc,.slice (some ⟨g,i * 3,none⟩) (n - i) sc]).run Tryz.prog W1.drew=.ok (goInt (Nat.min (n - i) (n - i))) (W1.drew.setRow N c2):=fun ty dc sc=>by
  rw [hc2]
  exact zBm W1.drew _ _ ty 52 3 N ((i+1) * 3) _ dc ⟨g,i * 3,none⟩ _ sc c1 _ (xs.drop (i * 3)) Tryz.underlying22 hsz hg1 (by rw [hdl];simp only [Nat.min_def];split<;>omega)
   (fun j v hj=>by
    rw [Addr.add_lit];rw [List.getElem?_drop] at hj
    exact hxcell _ hgs1 _ v hj)
   (by rw [hdl,←Array.length_toList,hs1];omega) (fun v hv=>h1 v (List.mem_of_mem_drop hv))
 have HM:Hid (Mod [] w (W1.drew.setRow N c2)):=by
  have m0:Mod [N] w (W1.drew.setRow N c2):=zAr (Mod.drew (by rw [hW1];exact zAr (by rw [hW0];exact (Mod.refl _ w).drew.alloc _) (List.mem_singleton.2 rfl) _)) (List.mem_singleton.2 rfl) _;exact ⟨m0.os,m0.tape,m0.output,m0.size,fun k hk _=>m0.block k hk (fun c=>by rw [List.mem_singleton] at c;omega)⟩
 have HO:Hid ((W1.drew.setRow N c2).ownsRow base 52 3 (.slice (some ⟨N,0,none⟩) (n+1) G) (n+1) (xs.take (i * 3)++vs++xs.drop (i * 3))):=
  ⟨by simp only [List.length_append,List.length_take,List.length_drop,hxl,hvl];omega,.inr ⟨N,G,c2,rfl,by omega,setRow_heap _ N c1 c2 _ _ hg1,hGn,hG63,htk.2,by first|exact htk.1|simpa using htk.1⟩⟩
 rw [←hW1] at hcpA;rw [←hN] at hrz ⊢;have hw1:IntKind.i64.wrap ((i:Int)+1)=(i:Int)+1:=by rw [IntKind.wrap_i64];omega
 have hb1:(0:Int)≤(i:Int)+1:=by omega
 have htn:((i:Int)+1).toNat=i+1:=by omega
 have hb2:¬(G=i+1):=by omega
 have hb5:¬(G=i):=by omega
 have hb3:(i:Int)≤(n:Int)+1:=by omega
 have hb4:¬(cap=i):=by omega
 have hb6:(cap:Int)<(n:Int)+1:=by omega
 have hGi:(G:Int)≤9223372036854775807:=by unfold maxLen at hG63;omega
 have hin:i≤n:=by omega
 have mixed:=zAv;clear hW1 hg1 hc1 hc2 htk hs1 hdl hxl hl hcur hx h1 h2 hvl hg hvb e0 hc0 hs0 hl0 hg0 hgg hgs1 hold hxcell hW0 hG hG63 hz hzs hs hby hi0 hsz hkk hik hN
 go_enter Tryz.func83,Tryz.ntmps83
 go_wp2_with (first
  | (at_builtin;refine Lib.wpList_append_run _ rfl _ _ _ _ rfl _ _ rfl rfl _ _ (hrz _) ?_)
  | (at_builtin;refine wpList_copy_runI _ rfl _ _ 22 22 rfl _ _ rfl rfl (hcpA _ _) ?_))
 go_region_law_o (refine step_copy_runI rfl _ _ 22 22 rfl (.slice (some ⟨N,(i+1) * 3,none⟩) (n - i) (G - (i+1))) (.slice (some ⟨g,i * 3,none⟩) (n - i) (cap - i)) (by simp [Act.eval,Act.put]) (by simp [Act.eval,Act.put]) (hcpB _ _ _) ?_)
 go_wp2;go_ret;exact ⟨G,rfl,HO.o,HM.o⟩
theorem zZe (base n vb:Nat) (v:Value) (xs vs:List Value) (w:World) (hown:w.ownsRow base 52 3 v n xs) (hn:n≤1000000) (hbase:base≤w.heap.size) (hvl:vs.length=3) (hvb:w.heap[vb]?=some (.cells vs.toArray 52 (0,0))) (h2:∀u∈vs,u.oneCell'=true) :
  Calls Tryz.prog 83 #[v,.int .i64 n,.slice (some ⟨vb,0,none⟩) 1 1] w fun e w'=>∃v',e=.returned v'∧w'.ownsRow base 52 3 v' (n+1) (xs++vs)∧w.grownBy w' v.ownBlock∧(v'.ownBlock=v.ownBlock∨v'.ownBlock=some w.heap.size):=by
 obtain ⟨i0,z,hi0,hz,hzs,hs,hby⟩:=zAj zJi;have hrow:IsRow w 3 (.slice (some ⟨vb,0,none⟩) 1 1) 1 vs:=⟨by rw [hvl],_,1,rfl,Nat.le_refl _,by unfold maxLen;omega,fun _=>⟨vb,0,rfl,(Array.getElem?_eq_some_iff.1 hvb).1,fun j u hj=>by rw [Nat.zero_add];exact zBo hvb (by rw [List.getElem?_toArray];exact hj)⟩⟩;obtain ⟨av,cv,rfl⟩:=zAh hown;have HOWN:=lH hown;have HROW:=lH hrow
 have hcv:n≤cv:=by obtain ⟨_,a,c,e,h,_⟩:=zAm hown;injection e with _ _ e;omega
 clear hown hrow hvb
 cases av with
 | none=>
  go_enter Tryz.func83,Tryz.ntmps83
  go_wp2_with (at_builtin;refine zAe rfl _ _ 22 rfl base 52 i0 z 3 64 Tryz.underlying22 hi0 hz hs hby hzs (by decide) _ _ _ rfl HOWN.o _ _ _ rfl HROW.o h2 (by unfold maxLen;omega) (by omega) hbase ?_)
  all_goals
   (intro v1 w1 hown1 hg1 hb1
    go_wp2;go_ret
    exact ⟨_,rfl,hown1,hg1,hb1⟩)
 | some ad=>
  go_enter Tryz.func83,Tryz.ntmps83
  go_wp2_with (at_builtin;refine zAe rfl _ _ 22 rfl base 52 i0 z 3 64 Tryz.underlying22 hi0 hz hs hby hzs (by decide) _ _ _ rfl HOWN.o _ _ _ rfl HROW.o h2 (by unfold maxLen;omega) (by omega) hbase ?_)
  all_goals
   (intro v1 w1 hown1 hg1 hb1
    go_wp2;go_ret
    exact ⟨_,rfl,hown1,hg1,hb1⟩)
theorem zZf (base n i vb:Nat) (v:Value) (xs vs:List Value) (w:World) (hown:w.ownsRow base 52 3 v n xs) (hi:i≤n) (hn:n≤1000000) (hbase:base≤w.heap.size) (hvl:vs.length=3) (hvb:w.heap[vb]?=some (.cells vs.toArray 52 (0,0))) (hne:v.ownBlock≠some vb) (h1:∀u∈xs,u.oneCell'=true) (h2:∀u∈vs,u.oneCell'=true) :
    Calls Tryz.prog 83 #[v,.int .i64 i,.slice (some ⟨vb,0,none⟩) 1 1] w fun e w'=>∃v',e=.returned v'∧w'.ownsRow base 52 3 v' (n+1) (xs.take (i * 3)++vs++xs.drop (i * 3))∧Mod v.ownBlock.toList w w'∧(v'.ownBlock=v.ownBlock∨v'.ownBlock=some w.heap.size):=by
  have ek:i * 3=i * 3:=by omega
  rw [ek]
  rcases Nat.lt_or_ge i n with hlt|hge
  · rcases hown.2 with ⟨hv,h0⟩|⟨g,cap,cur,rfl,hbg,hh,hn',hc,hs,ht⟩
    · omega
    · rcases Nat.lt_or_ge cap (n+1) with hr|hr
      · refine (zWb base g n cap i vb cur xs vs w hh (by omega) (by first|exact ht|simpa using ht) hbase hlt hn hn' hr hvl hvb h1 h2).mono ?_
        rintro e w' ⟨G,rfl,ho,hm⟩
        exact ⟨_,rfl,ho,hm.mono (fun k hk=>by cases hk),.inr rfl⟩
      · refine (zWa base g n cap i vb cur xs vs w hh (by omega) (by first|exact ht|simpa using ht) hbg hlt hn hr (by unfold maxLen at hc;omega) hvl hvb (fun c=>hne (by rw [c];rfl)) h1 h2).mono ?_
        rintro e w' ⟨rfl,ho,hm⟩
        exact ⟨_,rfl,ho,hm.mono (fun k hk=>by rw [List.mem_singleton] at hk;rw [hk];simp [Value.ownBlock]),.inl rfl⟩
  · obtain rfl:i=n:=by omega
    refine (zZe base i vb v xs vs w hown hn hbase hvl hvb h2).mono ?_
    rintro e w' ⟨v',rfl,ho,hg,hb⟩
    have hxl:xs.length=i * 3:=by have:=hown.1;omega
    refine ⟨v',rfl,?_,zAk hg,hb⟩
    rw [List.take_of_length_le (by omega),List.drop_eq_nil_of_le (by omega),List.append_nil];exact ho
theorem zWc (base g n cap i vb:Nat) (cur:Array Value) (xs vs:List Value) (w:World) (hg:w.heap[g]?=some (.cells cur 62 (0,0))) (hcur:cur.size=cap * 11) (hx:cur.toList.take (n * 11)=xs) (hbg:base≤g)
  (hi:i<n) (hn:n≤1000000) (hroom:n+1≤cap) (hc63:cap≤9223372036854775807) (hvl:vs.length=11) (hvb:w.heap[vb]?=some (.cells vs.toArray 62 (0,0))) (hne:vb≠g) (h1:∀u∈xs,u.oneCell'=true) (h2:∀u∈vs,u.oneCell'=true) :
  Calls Tryz.prog 77 #[.slice (some ⟨g,0,none⟩) n cap,.int .i64 i,.slice (some ⟨vb,0,none⟩) 1 1] w fun e w'=>e=.returned (.slice (some ⟨g,0,none⟩) (n+1) cap)∧w'.ownsRow base 62 11 (.slice (some ⟨g,0,none⟩) (n+1) cap) (n+1) (xs.take (i * 11)++vs++xs.drop (i * 11))∧Mod [g] w w':=by
 have hov:∀o lb cb,(callFunc 128 #[.slice (some ⟨vb,0,none⟩) 1 1,.slice (some ⟨g,o,none⟩) lb cb]).run Tryz.prog w=.ok (.value (.bool false)) w:=fun o lb cb=>by
  rw [run_callFunc_extern Tryz.func128 (by kernel_rfl) (by kernel_rfl) (by kernel_rfl) (e:=Extern.SlicesOverlaps.overlaps #[37,37] #[4]) (by kernel_rfl),
   Lib.run_overlaps_apart w 37 4 62 Tryz.underlying37 11 Tryz.sizeOf62 ⟨vb,0,none⟩ ⟨g,o,none⟩ 1 1 lb cb hne _ _ _ _ (zFc hvb) (zFc hg) (by omega) (zDl hvb 0) (zDl hvb _)]
  rfl
 have hsz:(Tryz.prog.info? 62).map (·.size)=some 11:=by
  obtain ⟨i0,z,hi0,_,_,hs,_⟩:=zAj zDd;rw [hi0];simp [hs]
 have hl:cur.toList.length=cap * 11:=by simpa using hcur
 have hxl:xs.length=n * 11:=by rw [←hx,List.length_take,hl];omega
 obtain ⟨c1,hc1⟩:∃c1:Array Value,c1=(cur.toList.take ((i+1) * 11)++xs.drop (i * 11)++cur.toList.drop ((i+1) * 11+(xs.drop (i * 11)).length)).toArray:=⟨_,rfl⟩;obtain ⟨c2,hc2⟩:∃c2:Array Value,c2=(c1.toList.take (i * 11)++vs++c1.toList.drop (i * 11+vs.length)).toArray:=⟨_,rfl⟩;have hdl:(xs.drop (i * 11)).length=(n - i) * 11:=by rw [List.length_drop,hxl];try omega
 have hs1:c1.toList.length=cap * 11:=by rw [hc1];simp only [List.length_append,List.length_take,List.length_drop,hl,hxl];omega
 have htk:c2.toList.take ((n+1) * 11)=xs.take (i * 11)++vs++xs.drop (i * 11)∧c2.size=cap * 11:=by
  have e1:c1.toList.take (i * 11)=xs.take (i * 11):=by
   rw [hc1,List.append_assoc,List.take_append_of_le_length (by rw [List.length_take,hl];omega),List.take_take,←hx,List.take_take]
   congr 1;omega
  have e2:c1.toList.drop (i * 11+vs.length)=xs.drop (i * 11)++cur.toList.drop ((i+1) * 11+(xs.drop (i * 11)).length):=by
   rw [hc1,List.append_assoc,List.drop_append_of_le_length (by rw [List.length_take,hl];omega),List.drop_eq_nil_of_le (by rw [List.length_take,hl];omega),List.nil_append]
  constructor
  ·rw [hc2,e1,e2,←List.append_assoc]
   refine List.take_left' ?_;simp only [List.length_append,List.length_take,List.length_drop,hxl];omega
  ·rw [←Array.length_toList,hc2,e1,e2];simp only [List.length_append,List.length_take,List.length_drop,hl,hxl];omega
 have hgw:w.drew.heap[g]?=some (.cells cur 62 (0,0)):=hg
 have hcp1:∀ty dc sc,(Builtin.copy_ #[37,37] ty #[.slice (some ⟨g,(i+1) * 11,none⟩) (n - i) dc,.slice (some ⟨g,i * 11,none⟩) (n+1 - i) sc]).run Tryz.prog w.drew=.ok (goInt (Nat.min (n+1 - i) (n - i))) (w.drew.setRow g c1):=fun ty dc sc=>by
  rw [hc1]
  exact zBm w.drew _ _ ty 62 11 g ((i+1) * 11) _ dc ⟨g,i * 11,none⟩ _ sc cur _ (xs.drop (i * 11)) Tryz.underlying37 hsz hgw (by rw [hdl];simp only [Nat.min_def];split<;>congr 1<;>omega)
   (fun j v hj=>by
    rw [Addr.add_lit];rw [List.getElem?_drop] at hj;refine zBo hgw ?_
    rw [←Array.getElem?_toList,←List.getElem?_take_of_lt (j:=n * 11) (by have:=(List.getElem?_eq_some_iff.1 hj).1;omega),hx];exact hj)
   (by rw [hdl,hcur];omega) (fun v hv=>h1 v (List.mem_of_mem_drop hv))
 obtain ⟨W1,hW1⟩:∃W1,W1=w.drew.setRow g c1:=⟨_,rfl⟩;have hg1:W1.heap[g]?=some (.cells c1 62 (0,0)):=by rw [hW1];exact setRow_heap _ g cur c1 _ _ hgw
 have hv1:W1.heap[vb]?=some (.cells vs.toArray 62 (0,0)):=by rw [hW1,zBs _ hne];exact hvb
 have hcp2:∀ty dc,(Builtin.copy_ #[37,37] ty #[.slice (some ⟨g,i * 11,none⟩) (n+1 - i) dc,.slice (some ⟨vb,0,none⟩) 1 1]).run Tryz.prog W1=.ok (goInt (Nat.min 1 (n+1 - i))) (W1.setRow g c2):=fun ty dc=>by
  rw [hc2]
  exact zBm W1 _ _ ty 62 11 g (i * 11) _ dc ⟨vb,0,none⟩ 1 1 c1 _ vs Tryz.underlying37 hsz hg1 (by rw [hvl];simp only [Nat.min_def];rw [if_pos (by omega)])
   (fun j v hj=>by rw [Addr.add_lit,Nat.zero_add];exact zBo hv1 (by rw [List.getElem?_toArray];exact hj)) (by rw [←Array.length_toList,hs1,hvl];omega) h2
 have HM:Hid (Mod [g] w (W1.setRow g c2)):=zAr (by rw [hW1];exact zAr (Mod.refl _ w).drew (List.mem_singleton.2 rfl) _) (List.mem_singleton.2 rfl) _
 have HO:Hid ((W1.setRow g c2).ownsRow base 62 11 (.slice (some ⟨g,0,none⟩) (n+1) cap) (n+1) (xs.take (i * 11)++vs++xs.drop (i * 11))):=
  ⟨by simp only [List.length_append,List.length_take,List.length_drop,hxl,hvl];omega,.inr ⟨g,cap,c2,rfl,hbg,setRow_heap _ g c1 c2 _ _ hg1,hroom,by unfold maxLen;omega,by rw [htk.2];try omega,by first|exact htk.1|simpa using htk.1⟩⟩
 rw [←hW1] at hcp1;have hw1:IntKind.i64.wrap ((i:Int)+1)=(i:Int)+1:=by rw [IntKind.wrap_i64];omega
 have hb1:(0:Int)≤(i:Int)+1:=by omega
 have htn:((i:Int)+1).toNat=i+1:=by omega
 have hb2:¬(cap=i+1):=by omega
 have hb3:(i:Int)≤(n:Int)+1:=by omega
 have hb4:¬(cap=i):=by omega
 have hin:i≤n:=by omega
 have mixed:=zAv;clear hW1 hg1 hv1 hc1 hc2 htk hs1 hdl hxl hl hgw hcur hx h1 h2 hvl hg hvb
 go_enter Tryz.func77,Tryz.ntmps77
 go_wp2_with (simp only [hov])
 go_region_law_o (refine step_copy_runI rfl _ _ 37 37 rfl (.slice (some ⟨g,(i+1) * 11,none⟩) (n - i) (cap - (i+1))) (.slice (some ⟨g,i * 11,none⟩) (n+1 - i) (cap - i)) (by simp [Act.eval,Act.put]) (by simp [Act.eval,Act.put]) (hcp1 _ _ _) ?_)
 go_wp2_with (at_builtin;refine wpList_copy_runI _ rfl _ _ 37 37 rfl _ _ rfl rfl (hcp2 _ _) ?_)
 go_ret;exact ⟨rfl,HO.o,HM.o⟩
theorem zWd (base g n cap i vb:Nat) (cur:Array Value) (xs vs:List Value) (w:World) (hg:w.heap[g]?=some (.cells cur 62 (0,0))) (hcur:cur.size=cap * 11) (hx:cur.toList.take (n * 11)=xs) (hbase:base≤w.heap.size)
  (hi:i<n) (hn:n≤1000000) (hnc:n≤cap) (hroom:cap<n+1) (hvl:vs.length=11) (hvb:w.heap[vb]?=some (.cells vs.toArray 62 (0,0))) (h1:∀u∈xs,u.oneCell'=true) (h2:∀u∈vs,u.oneCell'=true) :
  Calls Tryz.prog 77 #[.slice (some ⟨g,0,none⟩) n cap,.int .i64 i,.slice (some ⟨vb,0,none⟩) 1 1] w fun e w'=>∃G,e=.returned (.slice (some ⟨w.heap.size,0,none⟩) (n+1) G)∧w'.ownsRow base 62 11 (.slice (some ⟨w.heap.size,0,none⟩) (n+1) G) (n+1) (xs.take (i * 11)++vs++xs.drop (i * 11))∧Mod [] w w':=by
 obtain ⟨i0,z,hi0,hz,hzs,hs,hby⟩:=zAj zDd;have hsz:(Tryz.prog.info? 62).map (·.size)=some 11:=by rw [hi0];simp [hs]
 have hl:cur.toList.length=cap * 11:=by simpa using hcur
 have hxl:xs.length=n * 11:=by rw [←hx,List.length_take,hl];omega
 have hdl:(xs.drop (i * 11)).length=(n - i) * 11:=by rw [List.length_drop,hxl];try omega
 have hgl:g<w.heap.size:=(Array.getElem?_eq_some_iff.1 hg).1;have hvlt:vb<w.heap.size:=(Array.getElem?_eq_some_iff.1 hvb).1;obtain ⟨G,hG⟩:∃G,G=grownCap w (n+1) cap 62:=⟨_,rfl⟩;have hGn:n+1≤G:=by rw [hG];exact grownCap_ge w _ _ _
 have hG63:G≤maxLen:=by rw [hG];exact grownCap_le_maxLen w _ _ _ (by unfold maxLen;omega)
 have hkk:(n:Int)+1 - (i:Int)=((n+1 - i:Nat):Int):=by omega
 have hik:i+(n+1 - i)=n+1:=by omega
 have hxcell:∀(W:World),W.heap[g]?=some (.cells cur 62 (0,0))→∀j v,xs[j]?=some v→W.cell? ⟨g,j,none⟩=some v:=fun W hW j v hj=>by
  refine zBo hW ?_;rw [←Array.getElem?_toList,←List.getElem?_take_of_lt (j:=n * 11) (by have:=(List.getElem?_eq_some_iff.1 hj).1;omega),hx];exact hj
 have hold:(Builtin.firstCells i0.size i (.slice (some ⟨g,0,none⟩) i cap)).run Tryz.prog w.drew=.ok (xs.take (i * 11)).toArray w.drew:=by
  rw [hs]
  exact run_firstCells_some w.drew 11 i ⟨g,0,none⟩ i cap (xs.take (i * 11)) (by rw [List.length_take,hxl];omega) (fun j v hj=>by
   rw [Addr.add_lit,Nat.zero_add];rw [List.getElem?_take] at hj;split at hj
   ·exact hxcell w.drew hg j v hj
   ·cases hj)
 obtain ⟨c0,hc0⟩:∃c0:Array Value,c0=(xs.take (i * 11)).toArray++Builtin.zeroCells z.cells (n+1 - i)++Builtin.zeroCells z.cells (G - (n+1)):=⟨_,rfl⟩
 have hrz:∀ty,(Builtin.append_ #[37,3] ty #[.slice (some ⟨g,0,none⟩) i cap,.int .i64 ((n:Int)+1 - (i:Int))]).run Tryz.prog w=.ok (.slice (some ⟨w.heap.size,0,none⟩) (n+1) G) (w.drew.alloc (.cells c0 62)):=fun ty=>by
  have h:=Lib.run_append_grow_zeros w 37 3 ty 62 i0 z .i64 .i64 Tryz.underlying37 Tryz.underlying3 hi0 hz (some ⟨g,0,none⟩) i cap (xs.take (i * 11)) hold (n+1 - i) (by omega) (by omega) (by omega) (by omega) (by rw [hby];omega) (by rw [hby,hik];exact growslice_fits hroom (by omega));rw [hik] at h;rw [hkk,hc0,hG];exact h
 have hs0:c0.size=G * 11:=by
  rw [hc0];simp only [Array.size_append,size_zeroCells,List.size_toArray,List.length_take,hxl,hzs];omega
 have hl0:c0.toList.length=G * 11:=by rw [Array.length_toList];exact hs0
 obtain ⟨W0,hW0⟩:∃W0,W0=w.drew.alloc (.cells c0 62):=⟨_,rfl⟩;rw [←hW0] at hrz;obtain ⟨N,hN⟩:∃N,N=w.heap.size:=⟨_,rfl⟩;have hg0:W0.heap[N]?=some (.cells c0 62 (0,0)):=by rw [hW0,hN];exact heap_alloc_new w.drew _
 have hgg:∀k,k<N→W0.heap[k]?=w.heap[k]?:=fun k hk=>by rw [hW0];exact (World.grownBy_alloc w.drew _ none).block k (by rw [hN] at hk;exact hk) (by simp)
 obtain ⟨c1,hc1⟩:∃c1:Array Value,c1=(c0.toList.take (i * 11)++vs++c0.toList.drop (i * 11+vs.length)).toArray:=⟨_,rfl⟩;obtain ⟨c2,hc2⟩:∃c2:Array Value,c2=(c1.toList.take ((i+1) * 11)++xs.drop (i * 11)++c1.toList.drop ((i+1) * 11+(xs.drop (i * 11)).length)).toArray:=⟨_,rfl⟩;have hs1:c1.toList.length=G * 11:=by rw [hc1];simp only [List.length_append,List.length_take,List.length_drop,hl0,hvl];omega
 have e0:c0.toList.take (i * 11)=xs.take (i * 11):=by
  rw [hc0,Array.toList_append,Array.toList_append,List.append_assoc,List.take_append_of_le_length (by simp only [List.length_take,hxl];omega),List.take_of_length_le (by simp only [List.length_take,hxl];omega)]
 have htk:c2.toList.take ((n+1) * 11)=xs.take (i * 11)++vs++xs.drop (i * 11)∧c2.size=G * 11:=by
  have e1:c1.toList.take ((i+1) * 11)=xs.take (i * 11)++vs:=by
   rw [hc1,e0];refine List.take_left' ?_;simp only [List.length_append,List.length_take,hxl,hvl];omega
  constructor
  ·rw [hc2,e1]
   refine List.take_left' ?_;simp only [List.length_append,List.length_take,List.length_drop,hxl,hvl];omega
  ·rw [←Array.length_toList,hc2];simp only [List.length_append,List.length_take,List.length_drop,hs1,hxl];omega
 have hcpA:∀ty dc,(Builtin.copy_ #[37,37] ty #[.slice (some ⟨N,i * 11,none⟩) (n+1 - i) dc,.slice (some ⟨vb,0,none⟩) 1 1]).run Tryz.prog W0=.ok (goInt (Nat.min 1 (n+1 - i))) (W0.setRow N c1):=fun ty dc=>by
  rw [hc1]
  exact zBm W0 _ _ ty 62 11 N (i * 11) _ dc ⟨vb,0,none⟩ 1 1 c0 _ vs Tryz.underlying37 hsz hg0 (by rw [hvl];simp only [Nat.min_def];rw [if_pos (by omega)])
   (fun j v hj=>by rw [Addr.add_lit,Nat.zero_add];exact zBo ((hgg vb (by omega)).trans hvb) (by rw [List.getElem?_toArray];exact hj)) (by rw [hs0,hvl];omega) h2
 obtain ⟨W1,hW1⟩:∃W1,W1=W0.setRow N c1:=⟨_,rfl⟩;have hg1:W1.heap[N]?=some (.cells c1 62 (0,0)):=by rw [hW1];exact setRow_heap _ N c0 c1 _ _ hg0
 have hgs1:W1.drew.heap[g]?=some (.cells cur 62 (0,0)):=by show W1.heap[g]?=_;rw [hW1,zBs _ (by omega),hgg g (by omega)];exact hg
 have hcpB:∀ty dc sc,(Builtin.copy_ #[37,37] ty #[.slice (some ⟨N,(i+1) * 11,none⟩) (n - i) dc,.slice (some ⟨g,i * 11,none⟩) (n - i) sc]).run Tryz.prog W1.drew=.ok (goInt (Nat.min (n - i) (n - i))) (W1.drew.setRow N c2):=fun ty dc sc=>by
  rw [hc2]
  exact zBm W1.drew _ _ ty 62 11 N ((i+1) * 11) _ dc ⟨g,i * 11,none⟩ _ sc c1 _ (xs.drop (i * 11)) Tryz.underlying37 hsz hg1 (by rw [hdl];simp only [Nat.min_def];split<;>omega)
   (fun j v hj=>by
    rw [Addr.add_lit];rw [List.getElem?_drop] at hj
    exact hxcell _ hgs1 _ v hj)
   (by rw [hdl,←Array.length_toList,hs1];omega) (fun v hv=>h1 v (List.mem_of_mem_drop hv))
 have HM:Hid (Mod [] w (W1.drew.setRow N c2)):=by
  have m0:Mod [N] w (W1.drew.setRow N c2):=zAr (Mod.drew (by rw [hW1];exact zAr (by rw [hW0];exact (Mod.refl _ w).drew.alloc _) (List.mem_singleton.2 rfl) _)) (List.mem_singleton.2 rfl) _;exact ⟨m0.os,m0.tape,m0.output,m0.size,fun k hk _=>m0.block k hk (fun c=>by rw [List.mem_singleton] at c;omega)⟩
 have HO:Hid ((W1.drew.setRow N c2).ownsRow base 62 11 (.slice (some ⟨N,0,none⟩) (n+1) G) (n+1) (xs.take (i * 11)++vs++xs.drop (i * 11))):=
  ⟨by simp only [List.length_append,List.length_take,List.length_drop,hxl,hvl];omega,.inr ⟨N,G,c2,rfl,by omega,setRow_heap _ N c1 c2 _ _ hg1,hGn,hG63,htk.2,by first|exact htk.1|simpa using htk.1⟩⟩
 rw [←hW1] at hcpA;rw [←hN] at hrz ⊢;have hw1:IntKind.i64.wrap ((i:Int)+1)=(i:Int)+1:=by rw [IntKind.wrap_i64];omega
 have hb1:(0:Int)≤(i:Int)+1:=by omega
 have htn:((i:Int)+1).toNat=i+1:=by omega
 have hb2:¬(G=i+1):=by omega
 have hb5:¬(G=i):=by omega
 have hb3:(i:Int)≤(n:Int)+1:=by omega
 have hb4:¬(cap=i):=by omega
 have hb6:(cap:Int)<(n:Int)+1:=by omega
 have hGi:(G:Int)≤9223372036854775807:=by unfold maxLen at hG63;omega
 have hin:i≤n:=by omega
 have mixed:=zAv;clear hW1 hg1 hc1 hc2 htk hs1 hdl hxl hl hcur hx h1 h2 hvl hg hvb e0 hc0 hs0 hl0 hg0 hgg hgs1 hold hxcell hW0 hG hG63 hz hzs hs hby hi0 hsz hkk hik hN
 go_enter Tryz.func77,Tryz.ntmps77
 go_wp2_with (first
  | (at_builtin;refine Lib.wpList_append_run _ rfl _ _ _ _ rfl _ _ rfl rfl _ _ (hrz _) ?_)
  | (at_builtin;refine wpList_copy_runI _ rfl _ _ 37 37 rfl _ _ rfl rfl (hcpA _ _) ?_))
 go_region_law_o (refine step_copy_runI rfl _ _ 37 37 rfl (.slice (some ⟨N,(i+1) * 11,none⟩) (n - i) (G - (i+1))) (.slice (some ⟨g,i * 11,none⟩) (n - i) (cap - i)) (by simp [Act.eval,Act.put]) (by simp [Act.eval,Act.put]) (hcpB _ _ _) ?_)
 go_wp2;go_ret;exact ⟨G,rfl,HO.o,HM.o⟩
theorem zZg (base n vb:Nat) (v:Value) (xs vs:List Value) (w:World) (hown:w.ownsRow base 62 11 v n xs) (hn:n≤1000000) (hbase:base≤w.heap.size) (hvl:vs.length=11) (hvb:w.heap[vb]?=some (.cells vs.toArray 62 (0,0))) (h2:∀u∈vs,u.oneCell'=true) :
  Calls Tryz.prog 77 #[v,.int .i64 n,.slice (some ⟨vb,0,none⟩) 1 1] w fun e w'=>∃v',e=.returned v'∧w'.ownsRow base 62 11 v' (n+1) (xs++vs)∧w.grownBy w' v.ownBlock∧(v'.ownBlock=v.ownBlock∨v'.ownBlock=some w.heap.size):=by
 obtain ⟨i0,z,hi0,hz,hzs,hs,hby⟩:=zAj zDd;have hrow:IsRow w 11 (.slice (some ⟨vb,0,none⟩) 1 1) 1 vs:=⟨by rw [hvl],_,1,rfl,Nat.le_refl _,by unfold maxLen;omega,fun _=>⟨vb,0,rfl,(Array.getElem?_eq_some_iff.1 hvb).1,fun j u hj=>by rw [Nat.zero_add];exact zBo hvb (by rw [List.getElem?_toArray];exact hj)⟩⟩;obtain ⟨av,cv,rfl⟩:=zAh hown;have HOWN:=lH hown;have HROW:=lH hrow
 have hcv:n≤cv:=by obtain ⟨_,a,c,e,h,_⟩:=zAm hown;injection e with _ _ e;omega
 clear hown hrow hvb
 cases av with
 | none=>
  go_enter Tryz.func77,Tryz.ntmps77
  go_wp2_with (at_builtin;refine zAe rfl _ _ 37 rfl base 62 i0 z 11 136 Tryz.underlying37 hi0 hz hs hby hzs (by decide) _ _ _ rfl HOWN.o _ _ _ rfl HROW.o h2 (by unfold maxLen;omega) (by omega) hbase ?_)
  all_goals
   (intro v1 w1 hown1 hg1 hb1
    go_wp2;go_ret
    exact ⟨_,rfl,hown1,hg1,hb1⟩)
 | some ad=>
  go_enter Tryz.func77,Tryz.ntmps77
  go_wp2_with (at_builtin;refine zAe rfl _ _ 37 rfl base 62 i0 z 11 136 Tryz.underlying37 hi0 hz hs hby hzs (by decide) _ _ _ rfl HOWN.o _ _ _ rfl HROW.o h2 (by unfold maxLen;omega) (by omega) hbase ?_)
  all_goals
   (intro v1 w1 hown1 hg1 hb1
    go_wp2;go_ret
    exact ⟨_,rfl,hown1,hg1,hb1⟩)
theorem zZh (base n i vb:Nat) (v:Value) (xs vs:List Value) (w:World) (hown:w.ownsRow base 62 11 v n xs) (hi:i≤n) (hn:n≤1000000) (hbase:base≤w.heap.size) (hvl:vs.length=11) (hvb:w.heap[vb]?=some (.cells vs.toArray 62 (0,0))) (hne:v.ownBlock≠some vb) (h1:∀u∈xs,u.oneCell'=true) (h2:∀u∈vs,u.oneCell'=true) :
    Calls Tryz.prog 77 #[v,.int .i64 i,.slice (some ⟨vb,0,none⟩) 1 1] w fun e w'=>∃v',e=.returned v'∧w'.ownsRow base 62 11 v' (n+1) (xs.take (i * 11)++vs++xs.drop (i * 11))∧Mod v.ownBlock.toList w w'∧(v'.ownBlock=v.ownBlock∨v'.ownBlock=some w.heap.size):=by
  have ek:i * 11=i * 11:=by omega
  rw [ek]
  rcases Nat.lt_or_ge i n with hlt|hge
  · rcases hown.2 with ⟨hv,h0⟩|⟨g,cap,cur,rfl,hbg,hh,hn',hc,hs,ht⟩
    · omega
    · rcases Nat.lt_or_ge cap (n+1) with hr|hr
      · refine (zWd base g n cap i vb cur xs vs w hh (by omega) (by first|exact ht|simpa using ht) hbase hlt hn hn' hr hvl hvb h1 h2).mono ?_
        rintro e w' ⟨G,rfl,ho,hm⟩
        exact ⟨_,rfl,ho,hm.mono (fun k hk=>by cases hk),.inr rfl⟩
      · refine (zWc base g n cap i vb cur xs vs w hh (by omega) (by first|exact ht|simpa using ht) hbg hlt hn hr (by unfold maxLen at hc;omega) hvl hvb (fun c=>hne (by rw [c];rfl)) h1 h2).mono ?_
        rintro e w' ⟨rfl,ho,hm⟩
        exact ⟨_,rfl,ho,hm.mono (fun k hk=>by rw [List.mem_singleton] at hk;rw [hk];simp [Value.ownBlock]),.inl rfl⟩
  · obtain rfl:i=n:=by omega
    refine (zZg base i vb v xs vs w hown hn hbase hvl hvb h2).mono ?_
    rintro e w' ⟨v',rfl,ho,hg,hb⟩
    have hxl:xs.length=i * 11:=by have:=hown.1;omega
    refine ⟨v',rfl,?_,zAk hg,hb⟩
    rw [List.take_of_length_le (by omega),List.drop_eq_nil_of_le (by omega),List.append_nil];exact ho
theorem zWe (base g n cap i vb:Nat) (cur:Array Value) (xs vs:List Value) (w:World) (hg:w.heap[g]?=some (.cells cur 9 (0,0))) (hcur:cur.size=cap) (hx:cur.toList.take (n)=xs) (hbg:base≤g)
  (hi:i<n) (hn:n≤1000000) (hroom:n+1≤cap) (hc63:cap≤9223372036854775807) (hvl:vs.length=1) (hvb:w.heap[vb]?=some (.cells vs.toArray 9 (0,0))) (hne:vb≠g) (h1:∀u∈xs,u.oneCell'=true) (h2:∀u∈vs,u.oneCell'=true) :
  Calls Tryz.prog 72 #[.slice (some ⟨g,0,none⟩) n cap,.int .i64 i,.slice (some ⟨vb,0,none⟩) 1 1] w fun e w'=>e=.returned (.slice (some ⟨g,0,none⟩) (n+1) cap)∧w'.ownsRow base 9 1 (.slice (some ⟨g,0,none⟩) (n+1) cap) (n+1) (xs.take (i)++vs++xs.drop (i))∧Mod [g] w w':=by
 have hov:∀o lb cb,(callFunc 124 #[.slice (some ⟨vb,0,none⟩) 1 1,.slice (some ⟨g,o,none⟩) lb cb]).run Tryz.prog w=.ok (.value (.bool false)) w:=fun o lb cb=>by
  rw [run_callFunc_extern Tryz.func124 (by kernel_rfl) (by kernel_rfl) (by kernel_rfl) (e:=Extern.SlicesOverlaps.overlaps #[50,50] #[4]) (by kernel_rfl),
   Lib.run_overlaps_apart w 50 4 9 Tryz.underlying50 1 Tryz.sizeOf9 ⟨vb,0,none⟩ ⟨g,o,none⟩ 1 1 lb cb hne _ _ _ _ (zFc hvb) (zFc hg) (by omega) (zDl hvb 0) (zDl hvb _)]
  rfl
 have hsz:(Tryz.prog.info? 9).map (·.size)=some 1:=by
  obtain ⟨i0,z,hi0,_,_,hs,_⟩:=zAj zId;rw [hi0];simp [hs]
 have hl:cur.toList.length=cap:=by simpa using hcur
 have hxl:xs.length=n:=by rw [←hx,List.length_take,hl];omega
 obtain ⟨c1,hc1⟩:∃c1:Array Value,c1=(cur.toList.take (i+1)++xs.drop (i)++cur.toList.drop (i+1+(xs.drop (i)).length)).toArray:=⟨_,rfl⟩;obtain ⟨c2,hc2⟩:∃c2:Array Value,c2=(c1.toList.take (i)++vs++c1.toList.drop (i+vs.length)).toArray:=⟨_,rfl⟩;have hdl:(xs.drop (i)).length=n - i:=by rw [List.length_drop,hxl];try omega
 have hs1:c1.toList.length=cap:=by rw [hc1];simp only [List.length_append,List.length_take,List.length_drop,hl,hxl];omega
 have htk:c2.toList.take (n+1)=xs.take (i)++vs++xs.drop (i)∧c2.size=cap:=by
  have e1:c1.toList.take (i)=xs.take (i):=by
   rw [hc1,List.append_assoc,List.take_append_of_le_length (by rw [List.length_take,hl];omega),List.take_take,←hx,List.take_take]
   congr 1;omega
  have e2:c1.toList.drop (i+vs.length)=xs.drop (i)++cur.toList.drop (i+1+(xs.drop (i)).length):=by
   rw [hc1,List.append_assoc,List.drop_append_of_le_length (by rw [List.length_take,hl];omega),List.drop_eq_nil_of_le (by rw [List.length_take,hl];omega),List.nil_append]
  constructor
  ·rw [hc2,e1,e2,←List.append_assoc]
   refine List.take_left' ?_;simp only [List.length_append,List.length_take,List.length_drop,hxl];omega
  ·rw [←Array.length_toList,hc2,e1,e2];simp only [List.length_append,List.length_take,List.length_drop,hl,hxl];omega
 have hgw:w.drew.heap[g]?=some (.cells cur 9 (0,0)):=hg
 have hcp1:∀ty dc sc,(Builtin.copy_ #[50,50] ty #[.slice (some ⟨g,i+1,none⟩) (n - i) dc,.slice (some ⟨g,i,none⟩) (n+1 - i) sc]).run Tryz.prog w.drew=.ok (goInt (Nat.min (n+1 - i) (n - i))) (w.drew.setRow g c1):=fun ty dc sc=>by
  rw [hc1]
  exact zBm w.drew _ _ ty 9 1 g (i+1) _ dc ⟨g,i,none⟩ _ sc cur _ (xs.drop (i)) Tryz.underlying50 hsz hgw (by rw [hdl];simp only [Nat.min_def];split<;>congr 1<;>omega)
   (fun j v hj=>by
    rw [Addr.add_lit];rw [List.getElem?_drop] at hj;refine zBo hgw ?_
    rw [←Array.getElem?_toList,←List.getElem?_take_of_lt (j:=n) (by have:=(List.getElem?_eq_some_iff.1 hj).1;omega),hx];exact hj)
   (by rw [hdl,hcur];omega) (fun v hv=>h1 v (List.mem_of_mem_drop hv))
 obtain ⟨W1,hW1⟩:∃W1,W1=w.drew.setRow g c1:=⟨_,rfl⟩;have hg1:W1.heap[g]?=some (.cells c1 9 (0,0)):=by rw [hW1];exact setRow_heap _ g cur c1 _ _ hgw
 have hv1:W1.heap[vb]?=some (.cells vs.toArray 9 (0,0)):=by rw [hW1,zBs _ hne];exact hvb
 have hcp2:∀ty dc,(Builtin.copy_ #[50,50] ty #[.slice (some ⟨g,i,none⟩) (n+1 - i) dc,.slice (some ⟨vb,0,none⟩) 1 1]).run Tryz.prog W1=.ok (goInt (Nat.min 1 (n+1 - i))) (W1.setRow g c2):=fun ty dc=>by
  rw [hc2]
  exact zBm W1 _ _ ty 9 1 g (i) _ dc ⟨vb,0,none⟩ 1 1 c1 _ vs Tryz.underlying50 hsz hg1 (by rw [hvl];simp only [Nat.min_def];rw [if_pos (by omega)])
   (fun j v hj=>by rw [Addr.add_lit,Nat.zero_add];exact zBo hv1 (by rw [List.getElem?_toArray];exact hj)) (by rw [←Array.length_toList,hs1,hvl];omega) h2
 have HM:Hid (Mod [g] w (W1.setRow g c2)):=zAr (by rw [hW1];exact zAr (Mod.refl _ w).drew (List.mem_singleton.2 rfl) _) (List.mem_singleton.2 rfl) _
 have HO:Hid ((W1.setRow g c2).ownsRow base 9 1 (.slice (some ⟨g,0,none⟩) (n+1) cap) (n+1) (xs.take (i)++vs++xs.drop (i))):=
  ⟨by simp only [List.length_append,List.length_take,List.length_drop,hxl,hvl];omega,.inr ⟨g,cap,c2,rfl,hbg,setRow_heap _ g c1 c2 _ _ hg1,hroom,by unfold maxLen;omega,by rw [htk.2];try omega,by first|exact htk.1|simpa using htk.1⟩⟩
 rw [←hW1] at hcp1;have hw1:IntKind.i64.wrap ((i:Int)+1)=(i:Int)+1:=by rw [IntKind.wrap_i64];omega
 have hb1:(0:Int)≤(i:Int)+1:=by omega
 have htn:((i:Int)+1).toNat=i+1:=by omega
 have hb2:¬(cap=i+1):=by omega
 have hb3:(i:Int)≤(n:Int)+1:=by omega
 have hb4:¬(cap=i):=by omega
 have hin:i≤n:=by omega
 have mixed:=zAv;clear hW1 hg1 hv1 hc1 hc2 htk hs1 hdl hxl hl hgw hcur hx h1 h2 hvl hg hvb
 go_enter Tryz.func72,Tryz.ntmps72
 go_wp2_with (simp only [hov])
 go_region_law_o (refine step_copy_runI rfl _ _ 50 50 rfl (.slice (some ⟨g,i+1,none⟩) (n - i) (cap - (i+1))) (.slice (some ⟨g,i,none⟩) (n+1 - i) (cap - i)) (by simp [Act.eval,Act.put]) (by simp [Act.eval,Act.put]) (hcp1 _ _ _) ?_)
 go_wp2_with (at_builtin;refine wpList_copy_runI _ rfl _ _ 50 50 rfl _ _ rfl rfl (hcp2 _ _) ?_)
 go_ret;exact ⟨rfl,HO.o,HM.o⟩
theorem zWf (base g n cap i vb:Nat) (cur:Array Value) (xs vs:List Value) (w:World) (hg:w.heap[g]?=some (.cells cur 9 (0,0))) (hcur:cur.size=cap) (hx:cur.toList.take (n)=xs) (hbase:base≤w.heap.size)
  (hi:i<n) (hn:n≤1000000) (hnc:n≤cap) (hroom:cap<n+1) (hvl:vs.length=1) (hvb:w.heap[vb]?=some (.cells vs.toArray 9 (0,0))) (h1:∀u∈xs,u.oneCell'=true) (h2:∀u∈vs,u.oneCell'=true) :
  Calls Tryz.prog 72 #[.slice (some ⟨g,0,none⟩) n cap,.int .i64 i,.slice (some ⟨vb,0,none⟩) 1 1] w fun e w'=>∃G,e=.returned (.slice (some ⟨w.heap.size,0,none⟩) (n+1) G)∧w'.ownsRow base 9 1 (.slice (some ⟨w.heap.size,0,none⟩) (n+1) G) (n+1) (xs.take (i)++vs++xs.drop (i))∧Mod [] w w':=by
 obtain ⟨i0,z,hi0,hz,hzs,hs,hby⟩:=zAj zId;have hsz:(Tryz.prog.info? 9).map (·.size)=some 1:=by rw [hi0];simp [hs]
 have hl:cur.toList.length=cap:=by simpa using hcur
 have hxl:xs.length=n:=by rw [←hx,List.length_take,hl];omega
 have hdl:(xs.drop (i)).length=n - i:=by rw [List.length_drop,hxl];try omega
 have hgl:g<w.heap.size:=(Array.getElem?_eq_some_iff.1 hg).1;have hvlt:vb<w.heap.size:=(Array.getElem?_eq_some_iff.1 hvb).1;obtain ⟨G,hG⟩:∃G,G=grownCap w (n+1) cap 9:=⟨_,rfl⟩;have hGn:n+1≤G:=by rw [hG];exact grownCap_ge w _ _ _
 have hG63:G≤maxLen:=by rw [hG];exact grownCap_le_maxLen w _ _ _ (by unfold maxLen;omega)
 have hkk:(n:Int)+1 - (i:Int)=((n+1 - i:Nat):Int):=by omega
 have hik:i+(n+1 - i)=n+1:=by omega
 have hxcell:∀(W:World),W.heap[g]?=some (.cells cur 9 (0,0))→∀j v,xs[j]?=some v→W.cell? ⟨g,j,none⟩=some v:=fun W hW j v hj=>by
  refine zBo hW ?_;rw [←Array.getElem?_toList,←List.getElem?_take_of_lt (j:=n) (by have:=(List.getElem?_eq_some_iff.1 hj).1;omega),hx];exact hj
 have hold:(Builtin.firstCells i0.size i (.slice (some ⟨g,0,none⟩) i cap)).run Tryz.prog w.drew=.ok (xs.take (i)).toArray w.drew:=by
  rw [hs]
  exact run_firstCells_some w.drew 1 i ⟨g,0,none⟩ i cap (xs.take (i)) (by rw [List.length_take,hxl];omega) (fun j v hj=>by
   rw [Addr.add_lit,Nat.zero_add];rw [List.getElem?_take] at hj;split at hj
   ·exact hxcell w.drew hg j v hj
   ·cases hj)
 obtain ⟨c0,hc0⟩:∃c0:Array Value,c0=(xs.take (i)).toArray++Builtin.zeroCells z.cells (n+1 - i)++Builtin.zeroCells z.cells (G - (n+1)):=⟨_,rfl⟩
 have hrz:∀ty,(Builtin.append_ #[50,3] ty #[.slice (some ⟨g,0,none⟩) i cap,.int .i64 ((n:Int)+1 - (i:Int))]).run Tryz.prog w=.ok (.slice (some ⟨w.heap.size,0,none⟩) (n+1) G) (w.drew.alloc (.cells c0 9)):=fun ty=>by
  have h:=Lib.run_append_grow_zeros w 50 3 ty 9 i0 z .i64 .i64 Tryz.underlying50 Tryz.underlying3 hi0 hz (some ⟨g,0,none⟩) i cap (xs.take (i)) hold (n+1 - i) (by omega) (by omega) (by omega) (by omega) (by rw [hby];omega) (by rw [hby,hik];exact growslice_fits hroom (by omega));rw [hik] at h;rw [hkk,hc0,hG];exact h
 have hs0:c0.size=G * 1:=by
  rw [hc0];simp only [Array.size_append,size_zeroCells,List.size_toArray,List.length_take,hxl,hzs];omega
 have hl0:c0.toList.length=G * 1:=by rw [Array.length_toList];exact hs0
 obtain ⟨W0,hW0⟩:∃W0,W0=w.drew.alloc (.cells c0 9):=⟨_,rfl⟩;rw [←hW0] at hrz;obtain ⟨N,hN⟩:∃N,N=w.heap.size:=⟨_,rfl⟩;have hg0:W0.heap[N]?=some (.cells c0 9 (0,0)):=by rw [hW0,hN];exact heap_alloc_new w.drew _
 have hgg:∀k,k<N→W0.heap[k]?=w.heap[k]?:=fun k hk=>by rw [hW0];exact (World.grownBy_alloc w.drew _ none).block k (by rw [hN] at hk;exact hk) (by simp)
 obtain ⟨c1,hc1⟩:∃c1:Array Value,c1=(c0.toList.take (i)++vs++c0.toList.drop (i+vs.length)).toArray:=⟨_,rfl⟩;obtain ⟨c2,hc2⟩:∃c2:Array Value,c2=(c1.toList.take (i+1)++xs.drop (i)++c1.toList.drop (i+1+(xs.drop (i)).length)).toArray:=⟨_,rfl⟩;have hs1:c1.toList.length=G * 1:=by rw [hc1];simp only [List.length_append,List.length_take,List.length_drop,hl0,hvl];omega
 have e0:c0.toList.take (i)=xs.take (i):=by
  rw [hc0,Array.toList_append,Array.toList_append,List.append_assoc,List.take_append_of_le_length (by simp only [List.length_take,hxl];omega),List.take_of_length_le (by simp only [List.length_take,hxl];omega)]
 have htk:c2.toList.take (n+1)=xs.take (i)++vs++xs.drop (i)∧c2.size=G * 1:=by
  have e1:c1.toList.take (i+1)=xs.take (i)++vs:=by
   rw [hc1,e0];refine List.take_left' ?_;simp only [List.length_append,List.length_take,hxl,hvl];omega
  constructor
  ·rw [hc2,e1]
   refine List.take_left' ?_;simp only [List.length_append,List.length_take,List.length_drop,hxl,hvl];omega
  ·rw [←Array.length_toList,hc2];simp only [List.length_append,List.length_take,List.length_drop,hs1,hxl];omega
 have hcpA:∀ty dc,(Builtin.copy_ #[50,50] ty #[.slice (some ⟨N,i,none⟩) (n+1 - i) dc,.slice (some ⟨vb,0,none⟩) 1 1]).run Tryz.prog W0=.ok (goInt (Nat.min 1 (n+1 - i))) (W0.setRow N c1):=fun ty dc=>by
  rw [hc1]
  exact zBm W0 _ _ ty 9 1 N (i) _ dc ⟨vb,0,none⟩ 1 1 c0 _ vs Tryz.underlying50 hsz hg0 (by rw [hvl];simp only [Nat.min_def];rw [if_pos (by omega)])
   (fun j v hj=>by rw [Addr.add_lit,Nat.zero_add];exact zBo ((hgg vb (by omega)).trans hvb) (by rw [List.getElem?_toArray];exact hj)) (by rw [hs0,hvl];omega) h2
 obtain ⟨W1,hW1⟩:∃W1,W1=W0.setRow N c1:=⟨_,rfl⟩;have hg1:W1.heap[N]?=some (.cells c1 9 (0,0)):=by rw [hW1];exact setRow_heap _ N c0 c1 _ _ hg0
 have hgs1:W1.drew.heap[g]?=some (.cells cur 9 (0,0)):=by show W1.heap[g]?=_;rw [hW1,zBs _ (by omega),hgg g (by omega)];exact hg
 have hcpB:∀ty dc sc,(Builtin.copy_ #[50,50] ty #[.slice (some ⟨N,i+1,none⟩) (n - i) dc,.slice (some ⟨g,i,none⟩) (n - i) sc]).run Tryz.prog W1.drew=.ok (goInt (Nat.min (n - i) (n - i))) (W1.drew.setRow N c2):=fun ty dc sc=>by
  rw [hc2]
  exact zBm W1.drew _ _ ty 9 1 N (i+1) _ dc ⟨g,i,none⟩ _ sc c1 _ (xs.drop (i)) Tryz.underlying50 hsz hg1 (by rw [hdl];simp only [Nat.min_def];split<;>omega)
   (fun j v hj=>by
    rw [Addr.add_lit];rw [List.getElem?_drop] at hj
    exact hxcell _ hgs1 _ v hj)
   (by rw [hdl,←Array.length_toList,hs1];omega) (fun v hv=>h1 v (List.mem_of_mem_drop hv))
 have HM:Hid (Mod [] w (W1.drew.setRow N c2)):=by
  have m0:Mod [N] w (W1.drew.setRow N c2):=zAr (Mod.drew (by rw [hW1];exact zAr (by rw [hW0];exact (Mod.refl _ w).drew.alloc _) (List.mem_singleton.2 rfl) _)) (List.mem_singleton.2 rfl) _;exact ⟨m0.os,m0.tape,m0.output,m0.size,fun k hk _=>m0.block k hk (fun c=>by rw [List.mem_singleton] at c;omega)⟩
 have HO:Hid ((W1.drew.setRow N c2).ownsRow base 9 1 (.slice (some ⟨N,0,none⟩) (n+1) G) (n+1) (xs.take (i)++vs++xs.drop (i))):=
  ⟨by simp only [List.length_append,List.length_take,List.length_drop,hxl,hvl];omega,.inr ⟨N,G,c2,rfl,by omega,setRow_heap _ N c1 c2 _ _ hg1,hGn,hG63,htk.2,by first|exact htk.1|simpa using htk.1⟩⟩
 rw [←hW1] at hcpA;rw [←hN] at hrz ⊢;have hw1:IntKind.i64.wrap ((i:Int)+1)=(i:Int)+1:=by rw [IntKind.wrap_i64];omega
 have hb1:(0:Int)≤(i:Int)+1:=by omega
 have htn:((i:Int)+1).toNat=i+1:=by omega
 have hb2:¬(G=i+1):=by omega
 have hb5:¬(G=i):=by omega
 have hb3:(i:Int)≤(n:Int)+1:=by omega
 have hb4:¬(cap=i):=by omega
 have hb6:(cap:Int)<(n:Int)+1:=by omega
 have hGi:(G:Int)≤9223372036854775807:=by unfold maxLen at hG63;omega
 have hin:i≤n:=by omega
 have mixed:=zAv;clear hW1 hg1 hc1 hc2 htk hs1 hdl hxl hl hcur hx h1 h2 hvl hg hvb e0 hc0 hs0 hl0 hg0 hgg hgs1 hold hxcell hW0 hG hG63 hz hzs hs hby hi0 hsz hkk hik hN
 go_enter Tryz.func72,Tryz.ntmps72
 go_wp2_with (first
  | (at_builtin;refine Lib.wpList_append_run _ rfl _ _ _ _ rfl _ _ rfl rfl _ _ (hrz _) ?_)
  | (at_builtin;refine wpList_copy_runI _ rfl _ _ 50 50 rfl _ _ rfl rfl (hcpA _ _) ?_))
 go_region_law_o (refine step_copy_runI rfl _ _ 50 50 rfl (.slice (some ⟨N,i+1,none⟩) (n - i) (G - (i+1))) (.slice (some ⟨g,i,none⟩) (n - i) (cap - i)) (by simp [Act.eval,Act.put]) (by simp [Act.eval,Act.put]) (hcpB _ _ _) ?_)
 go_wp2;go_ret;exact ⟨G,rfl,HO.o,HM.o⟩
theorem zZi (base n vb:Nat) (v:Value) (xs vs:List Value) (w:World) (hown:w.ownsRow base 9 1 v n xs) (hn:n≤1000000) (hbase:base≤w.heap.size) (hvl:vs.length=1) (hvb:w.heap[vb]?=some (.cells vs.toArray 9 (0,0))) (h2:∀u∈vs,u.oneCell'=true) :
  Calls Tryz.prog 72 #[v,.int .i64 n,.slice (some ⟨vb,0,none⟩) 1 1] w fun e w'=>∃v',e=.returned v'∧w'.ownsRow base 9 1 v' (n+1) (xs++vs)∧w.grownBy w' v.ownBlock∧(v'.ownBlock=v.ownBlock∨v'.ownBlock=some w.heap.size):=by
 obtain ⟨i0,z,hi0,hz,hzs,hs,hby⟩:=zAj zId;have hrow:IsRow w 1 (.slice (some ⟨vb,0,none⟩) 1 1) 1 vs:=⟨by rw [hvl],_,1,rfl,Nat.le_refl _,by unfold maxLen;omega,fun _=>⟨vb,0,rfl,(Array.getElem?_eq_some_iff.1 hvb).1,fun j u hj=>by rw [Nat.zero_add];exact zBo hvb (by rw [List.getElem?_toArray];exact hj)⟩⟩;obtain ⟨av,cv,rfl⟩:=zAh hown;have HOWN:=lH hown;have HROW:=lH hrow
 have hcv:n≤cv:=by obtain ⟨_,a,c,e,h,_⟩:=zAm hown;injection e with _ _ e;omega
 clear hown hrow hvb
 cases av with
 | none=>
  go_enter Tryz.func72,Tryz.ntmps72
  go_wp2_with (at_builtin;refine zAe rfl _ _ 50 rfl base 9 i0 z 1 16 Tryz.underlying50 hi0 hz hs hby hzs (by decide) _ _ _ rfl HOWN.o _ _ _ rfl HROW.o h2 (by unfold maxLen;omega) (by omega) hbase ?_)
  all_goals
   (intro v1 w1 hown1 hg1 hb1
    go_wp2;go_ret
    exact ⟨_,rfl,hown1,hg1,hb1⟩)
 | some ad=>
  go_enter Tryz.func72,Tryz.ntmps72
  go_wp2_with (at_builtin;refine zAe rfl _ _ 50 rfl base 9 i0 z 1 16 Tryz.underlying50 hi0 hz hs hby hzs (by decide) _ _ _ rfl HOWN.o _ _ _ rfl HROW.o h2 (by unfold maxLen;omega) (by omega) hbase ?_)
  all_goals
   (intro v1 w1 hown1 hg1 hb1
    go_wp2;go_ret
    exact ⟨_,rfl,hown1,hg1,hb1⟩)
theorem zZj (base n i vb:Nat) (v:Value) (xs vs:List Value) (w:World) (hown:w.ownsRow base 9 1 v n xs) (hi:i≤n) (hn:n≤1000000) (hbase:base≤w.heap.size) (hvl:vs.length=1) (hvb:w.heap[vb]?=some (.cells vs.toArray 9 (0,0))) (hne:v.ownBlock≠some vb) (h1:∀u∈xs,u.oneCell'=true) (h2:∀u∈vs,u.oneCell'=true) :
    Calls Tryz.prog 72 #[v,.int .i64 i,.slice (some ⟨vb,0,none⟩) 1 1] w fun e w'=>∃v',e=.returned v'∧w'.ownsRow base 9 1 v' (n+1) (xs.take (i * 1)++vs++xs.drop (i * 1))∧Mod v.ownBlock.toList w w'∧(v'.ownBlock=v.ownBlock∨v'.ownBlock=some w.heap.size):=by
  have ek:i * 1=i:=by omega
  rw [ek]
  rcases Nat.lt_or_ge i n with hlt|hge
  · rcases hown.2 with ⟨hv,h0⟩|⟨g,cap,cur,rfl,hbg,hh,hn',hc,hs,ht⟩
    · omega
    · rcases Nat.lt_or_ge cap (n+1) with hr|hr
      · refine (zWf base g n cap i vb cur xs vs w hh (by omega) (by first|exact ht|simpa using ht) hbase hlt hn hn' hr hvl hvb h1 h2).mono ?_
        rintro e w' ⟨G,rfl,ho,hm⟩
        exact ⟨_,rfl,ho,hm.mono (fun k hk=>by cases hk),.inr rfl⟩
      · refine (zWe base g n cap i vb cur xs vs w hh (by omega) (by first|exact ht|simpa using ht) hbg hlt hn hr (by unfold maxLen at hc;omega) hvl hvb (fun c=>hne (by rw [c];rfl)) h1 h2).mono ?_
        rintro e w' ⟨rfl,ho,hm⟩
        exact ⟨_,rfl,ho,hm.mono (fun k hk=>by rw [List.mem_singleton] at hk;rw [hk];simp [Value.ownBlock]),.inl rfl⟩
  · obtain rfl:i=n:=by omega
    refine (zZi base i vb v xs vs w hown hn hbase hvl hvb h2).mono ?_
    rintro e w' ⟨v',rfl,ho,hg,hb⟩
    have hxl:xs.length=i:=by have:=hown.1;omega
    refine ⟨v',rfl,?_,zAk hg,hb⟩
    rw [List.take_of_length_le (by omega),List.drop_eq_nil_of_le (by omega),List.append_nil];exact ho
theorem zBf {P:Program} {ops:Array Oper} {o:Oper} {a:Act} {w:World} {K:Act→World→Prop} {Q:Exit→Act→World→Prop} {E:Prop}
  (hg:o.guard=none) (d x:Operand) (t:TypeId) (hop:o.op=Op.call { callee:=Callee.builtin Builtin.append,args:=#[d,x],argTypes:=#[t,t] })
  (v u:Value) (hd:a.eval d=v) (hx:a.eval x=u) {v':Value} {w':World} (hr:(Builtin.append_ #[t,t] o.type #[v,u]).run P w=.ok v' w') (hK:K (a.put o.dst v') w') :
  if Region.wanted o (yielded ops a.tmps)=true then Oper.wp P o a w K Q else E:=by
 have hw:Region.wanted o (yielded ops a.tmps)=true:=by simp [Region.wanted,hg]
 rw [if_pos hw];unfold Oper.wp;simp [execOp,hop,resolve,invoke,builtin,hd,hx,hr,Result.andThen]
 exact hK
theorem zZk (base g m cap i:Nat) (cur:Array Value) (xs:List Value) (w:World) (hg:w.heap[g]?=some (.cells cur 52 (0,0))) (hcur:cur.size=cap * 3) (hx:cur.toList.take ((m+1) * 3)=xs) (hbg:base≤g)
  (hi:i≤m) (hn:m≤1000000) (hmc:m+1≤cap) (hc63:cap≤9223372036854775807) (h1:∀u∈xs,u.oneCell'=true) :
  Calls Tryz.prog 84 #[.slice (some ⟨g,0,none⟩) (m+1) cap,.int .i64 i,.int .i64 ((i:Int)+1)] w fun e w'=>e=.returned (.slice (some ⟨g,0,none⟩) m cap)∧w'.ownsRow base 52 3 (.slice (some ⟨g,0,none⟩) m cap) m (xs.take (i * 3)++xs.drop ((i+1) * 3))∧Mod [g] w w':=by
 obtain ⟨i0,z,hi0,hz,hzs,hs,hby⟩:=zAj zJi;have hl:cur.toList.length=cap * 3:=by simpa using hcur
 have hxl:xs.length=(m+1) * 3:=by rw [←hx,List.length_take,hl];omega
 have hdl:(xs.drop ((i+1) * 3)).length=(m - i) * 3:=by rw [List.length_drop,hxl];omega
 have hgw:w.drew.heap[g]?=some (.cells cur 52 (0,0)):=hg;obtain ⟨c1,hc1⟩:∃c1:Array Value,c1=(cur.toList.take (i * 3)++xs.drop ((i+1) * 3)++cur.toList.drop (i * 3+(xs.drop ((i+1) * 3)).length)).toArray:=⟨_,rfl⟩;have hs1:c1.toList.length=cap * 3:=by rw [hc1];simp only [List.length_append,List.length_take,List.length_drop,hl,hxl];omega
 have e1:c1.toList.take (m * 3)=xs.take (i * 3)++xs.drop ((i+1) * 3):=by
  rw [hc1,List.take_left' (by simp only [List.length_append,List.length_take,List.length_drop,hl,hxl];omega)]
  congr 1
  rw [←hx,List.take_take];congr 1;omega
 obtain ⟨A,hA⟩:∃A:Addr,A=if cap=i+1 then ⟨g,0,none⟩ else ⟨g,(i+1) * 3,none⟩:=⟨_,rfl⟩
 have hap:∀ty sc,(Builtin.append_ #[22,22] ty #[.slice (some ⟨g,0,none⟩) i cap,.slice (some A) (m - i) sc]).run Tryz.prog w.drew=.ok (.slice (some ⟨g,0,none⟩) m cap) (w.drew.setRow g c1):=fun ty sc=>by
  have h:=run_append_room (P:=Tryz.prog) w.drew 22 ty 52 i0 Tryz.underlying22 hi0 g i cap cur hgw A (m - i) sc (xs.drop ((i+1) * 3)) (by rw [hs,hdl];try omega) (fun j u hj=>by
    have hjl:=(List.getElem?_eq_some_iff.1 hj).1;rw [hdl] at hjl;have hne:¬cap=i+1:=by omega
    rw [hA,if_neg hne,Addr.add_lit];rw [List.getElem?_drop] at hj;refine zBo hgw ?_
    rw [←Array.getElem?_toList,←List.getElem?_take_of_lt (j:=(m+1) * 3) (by omega),hx];exact hj) (fun v hv=>h1 v (List.mem_of_mem_drop hv)) (by omega) (by rw [hs,hdl,hcur];omega)
  rw [hs,show i+(m - i)=m by omega,show i * 3=i * 3 by omega] at h;rw [h,hc1]
 obtain ⟨W1,hW1⟩:∃W1,W1=w.drew.setRow g c1:=⟨_,rfl⟩;have hg1:W1.heap[g]?=some (.cells c1 52 (0,0)):=by rw [hW1];exact setRow_heap _ g cur c1 _ _ hgw
 obtain ⟨zz,hzv,hz1,hzl⟩:∃zz:Value,(∀w,(zeroValue 52).run Tryz.prog w=.ok zz w)∧(∀v∈zz.cells,v.oneCell'=true)∧zz.cells.size=3:=⟨_,Tryz.zeroValue52,by
  intro v hv;have:=List.all_eq_true.1 (show (Value.cells _).toList.all Value.oneCell'=true by kernel_rfl) v (Array.mem_toList_iff.2 hv)
  exact this,by kernel_rfl⟩
 obtain ⟨c2,hc2⟩:∃c2:Array Value,c2=(c1.toList.take (m * 3)++(Builtin.zeroCells zz.cells 1).toList++c1.toList.drop (m * 3+(Builtin.zeroCells zz.cells 1).size)).toArray:=⟨_,rfl⟩;have hzc:(Builtin.zeroCells zz.cells 1).size=3:=by rw [size_zeroCells,hzl]
 have hcl:∀ty cc,(Builtin.clear_ #[22] ty #[.slice (some ⟨g,m * 3,none⟩) 1 cc]).run Tryz.prog W1=.ok (.tuple #[]) (W1.setRow g c2):=fun ty cc=>by
  rw [hc2];exact zHa W1 22 52 ty zz Tryz.underlying22 hzv hz1 g (m * 3) 1 cc c1 _ hg1 (by omega) (by rw [hzc,←Array.length_toList,hs1];omega)
 have hs2:c2.size=cap * 3:=by
  rw [←Array.length_toList,hc2];simp only [List.length_append,List.length_take,List.length_drop,hs1,Array.length_toList,hzc];omega
 have htk:c2.toList.take (m * 3)=xs.take (i * 3)++xs.drop ((i+1) * 3):=by
  rw [hc2,List.append_assoc,List.take_append_of_le_length (by rw [List.length_take,hs1];omega),List.take_take,Nat.min_self,e1]
 have HM:Hid (Mod [g] w (W1.setRow g c2)):=zAr (by rw [hW1];exact zAr (Mod.refl _ w).drew (List.mem_singleton.2 rfl) _) (List.mem_singleton.2 rfl) _
 have HO:Hid ((W1.setRow g c2).ownsRow base 52 3 (.slice (some ⟨g,0,none⟩) m cap) m (xs.take (i * 3)++xs.drop ((i+1) * 3))):=
  ⟨by simp only [List.length_append,List.length_take,List.length_drop,hxl];omega,.inr ⟨g,cap,c2,rfl,hbg,setRow_heap _ g c1 c2 _ _ hg1,by omega,by unfold maxLen;omega,by rw [hs2];try omega,by first|exact htk|simpa using htk⟩⟩
 rw [←hW1] at hap;have hb1:(0:Int)≤(i:Int)+1:=by omega
 have htn:((i:Int)+1).toNat=i+1:=by omega
 have hb2:¬(cap=m):=by omega
 have hb3:(i:Int)≤(m:Int):=by omega
 have hb4:¬(cap=i):=by omega
 have hb5:i≤cap:=by omega
 have hb6:i+1≤cap:=by omega
 have hb7:i≤m+1:=by omega
 have hmd:m+1 - m=1:=by omega
 have mixed:=zAv;clear hW1 hg1 hc1 hc2 htk hs1 hdl hxl hl hgw hcur hx h1 hg e1 hs2 hzc hzl hz1 hzv hz hzs hs hby hi0
 by_cases hce:cap=i+1
 ·rw [if_pos hce] at hA
  obtain rfl:m=i:=by omega
  subst hce hA;rw [Nat.sub_self] at hap;have hb9:(m:Int)≤(m:Int)+1:=by omega
  go_enter Tryz.func84,Tryz.ntmps84
  go_wp2_with fail
  go_region_law_o (refine zBf rfl _ _ 22 rfl (.slice (some ⟨g,0,none⟩) m (m+1)) (.slice (some ⟨g,0,none⟩) 0 0) (by simp [Act.eval,Act.put]) (by simp [Act.eval,Act.put]) (hap _ _) ?_)
  go_wp2;go_ret;exact ⟨rfl,HO.o,HM.o⟩
 ·rw [if_neg hce] at hA
  subst hA
  go_enter Tryz.func84,Tryz.ntmps84
  go_wp2_with fail
  go_region_law_o (refine zBf rfl _ _ 22 rfl (.slice (some ⟨g,0,none⟩) i cap) (.slice (some ⟨g,(i+1) * 3,none⟩) (m - i) (cap - (i+1))) (by simp [Act.eval,Act.put]) (by simp [Act.eval,Act.put]) (hap _ _) ?_)
  go_wp2;go_ret;exact ⟨rfl,HO.o,HM.o⟩
theorem zZl (base n i:Nat) (v:Value) (xs:List Value) (w:World) (hown:w.ownsRow base 52 3 v n xs) (hi:i<n) (hn:n≤1000000) (h1:∀u∈xs,u.oneCell'=true) :
    Calls Tryz.prog 84 #[v,.int .i64 i,.int .i64 ((i:Int)+1)] w fun e w'=>∃v',e=.returned v'∧w'.ownsRow base 52 3 v' (n - 1) (xs.take (i * 3)++xs.drop ((i+1) * 3))∧Mod v.ownBlock.toList w w'∧v'.ownBlock=v.ownBlock:=by
  rw [show i * 3=i * 3 by omega,show (i+1) * 3=(i+1) * 3 by omega]
  obtain ⟨m,rfl⟩:∃m,n=m+1:=⟨n - 1,by omega⟩
  rw [Nat.add_sub_cancel]
  rcases hown.2 with ⟨hv,h0⟩|⟨g,cap,cur,rfl,hbg,hh,hn',hc,hs,ht⟩
  · omega
  · refine (zZk base g m cap i cur xs w hh (by omega) (by first|exact ht|simpa using ht) hbg (by omega) (by omega) hn' (by unfold maxLen at hc;omega) h1).mono ?_
    rintro e w' ⟨rfl,ho,hm⟩
    exact ⟨_,rfl,ho,hm.mono (fun k hk=>by rw [List.mem_singleton] at hk;rw [hk];simp [Value.ownBlock]),rfl⟩
theorem zZm (base g m cap i:Nat) (cur:Array Value) (xs:List Value) (w:World) (hg:w.heap[g]?=some (.cells cur 62 (0,0))) (hcur:cur.size=cap * 11) (hx:cur.toList.take ((m+1) * 11)=xs) (hbg:base≤g)
  (hi:i≤m) (hn:m≤1000000) (hmc:m+1≤cap) (hc63:cap≤9223372036854775807) (h1:∀u∈xs,u.oneCell'=true) :
  Calls Tryz.prog 131 #[.slice (some ⟨g,0,none⟩) (m+1) cap,.int .i64 i,.int .i64 ((i:Int)+1)] w fun e w'=>e=.returned (.slice (some ⟨g,0,none⟩) m cap)∧w'.ownsRow base 62 11 (.slice (some ⟨g,0,none⟩) m cap) m (xs.take (i * 11)++xs.drop ((i+1) * 11))∧Mod [g] w w':=by
 obtain ⟨i0,z,hi0,hz,hzs,hs,hby⟩:=zAj zDd;have hl:cur.toList.length=cap * 11:=by simpa using hcur
 have hxl:xs.length=(m+1) * 11:=by rw [←hx,List.length_take,hl];omega
 have hdl:(xs.drop ((i+1) * 11)).length=(m - i) * 11:=by rw [List.length_drop,hxl];omega
 have hgw:w.drew.heap[g]?=some (.cells cur 62 (0,0)):=hg;obtain ⟨c1,hc1⟩:∃c1:Array Value,c1=(cur.toList.take (i * 11)++xs.drop ((i+1) * 11)++cur.toList.drop (i * 11+(xs.drop ((i+1) * 11)).length)).toArray:=⟨_,rfl⟩;have hs1:c1.toList.length=cap * 11:=by rw [hc1];simp only [List.length_append,List.length_take,List.length_drop,hl,hxl];omega
 have e1:c1.toList.take (m * 11)=xs.take (i * 11)++xs.drop ((i+1) * 11):=by
  rw [hc1,List.take_left' (by simp only [List.length_append,List.length_take,List.length_drop,hl,hxl];omega)]
  congr 1
  rw [←hx,List.take_take];congr 1;omega
 obtain ⟨A,hA⟩:∃A:Addr,A=if cap=i+1 then ⟨g,0,none⟩ else ⟨g,(i+1) * 11,none⟩:=⟨_,rfl⟩
 have hap:∀ty sc,(Builtin.append_ #[37,37] ty #[.slice (some ⟨g,0,none⟩) i cap,.slice (some A) (m - i) sc]).run Tryz.prog w.drew=.ok (.slice (some ⟨g,0,none⟩) m cap) (w.drew.setRow g c1):=fun ty sc=>by
  have h:=run_append_room (P:=Tryz.prog) w.drew 37 ty 62 i0 Tryz.underlying37 hi0 g i cap cur hgw A (m - i) sc (xs.drop ((i+1) * 11)) (by rw [hs,hdl];try omega) (fun j u hj=>by
    have hjl:=(List.getElem?_eq_some_iff.1 hj).1;rw [hdl] at hjl;have hne:¬cap=i+1:=by omega
    rw [hA,if_neg hne,Addr.add_lit];rw [List.getElem?_drop] at hj;refine zBo hgw ?_
    rw [←Array.getElem?_toList,←List.getElem?_take_of_lt (j:=(m+1) * 11) (by omega),hx];exact hj) (fun v hv=>h1 v (List.mem_of_mem_drop hv)) (by omega) (by rw [hs,hdl,hcur];omega)
  rw [hs,show i+(m - i)=m by omega,show i * 11=i * 11 by omega] at h;rw [h,hc1]
 obtain ⟨W1,hW1⟩:∃W1,W1=w.drew.setRow g c1:=⟨_,rfl⟩;have hg1:W1.heap[g]?=some (.cells c1 62 (0,0)):=by rw [hW1];exact setRow_heap _ g cur c1 _ _ hgw
 obtain ⟨zz,hzv,hz1,hzl⟩:∃zz:Value,(∀w,(zeroValue 62).run Tryz.prog w=.ok zz w)∧(∀v∈zz.cells,v.oneCell'=true)∧zz.cells.size=11:=⟨_,Tryz.zeroValue62,by
  intro v hv;have:=List.all_eq_true.1 (show (Value.cells _).toList.all Value.oneCell'=true by kernel_rfl) v (Array.mem_toList_iff.2 hv)
  exact this,by kernel_rfl⟩
 obtain ⟨c2,hc2⟩:∃c2:Array Value,c2=(c1.toList.take (m * 11)++(Builtin.zeroCells zz.cells 1).toList++c1.toList.drop (m * 11+(Builtin.zeroCells zz.cells 1).size)).toArray:=⟨_,rfl⟩;have hzc:(Builtin.zeroCells zz.cells 1).size=11:=by rw [size_zeroCells,hzl]
 have hcl:∀ty cc,(Builtin.clear_ #[37] ty #[.slice (some ⟨g,m * 11,none⟩) 1 cc]).run Tryz.prog W1=.ok (.tuple #[]) (W1.setRow g c2):=fun ty cc=>by
  rw [hc2];exact zHa W1 37 62 ty zz Tryz.underlying37 hzv hz1 g (m * 11) 1 cc c1 _ hg1 (by omega) (by rw [hzc,←Array.length_toList,hs1];omega)
 have hs2:c2.size=cap * 11:=by
  rw [←Array.length_toList,hc2];simp only [List.length_append,List.length_take,List.length_drop,hs1,Array.length_toList,hzc];omega
 have htk:c2.toList.take (m * 11)=xs.take (i * 11)++xs.drop ((i+1) * 11):=by
  rw [hc2,List.append_assoc,List.take_append_of_le_length (by rw [List.length_take,hs1];omega),List.take_take,Nat.min_self,e1]
 have HM:Hid (Mod [g] w (W1.setRow g c2)):=zAr (by rw [hW1];exact zAr (Mod.refl _ w).drew (List.mem_singleton.2 rfl) _) (List.mem_singleton.2 rfl) _
 have HO:Hid ((W1.setRow g c2).ownsRow base 62 11 (.slice (some ⟨g,0,none⟩) m cap) m (xs.take (i * 11)++xs.drop ((i+1) * 11))):=
  ⟨by simp only [List.length_append,List.length_take,List.length_drop,hxl];omega,.inr ⟨g,cap,c2,rfl,hbg,setRow_heap _ g c1 c2 _ _ hg1,by omega,by unfold maxLen;omega,by rw [hs2];try omega,by first|exact htk|simpa using htk⟩⟩
 rw [←hW1] at hap;have hb1:(0:Int)≤(i:Int)+1:=by omega
 have htn:((i:Int)+1).toNat=i+1:=by omega
 have hb2:¬(cap=m):=by omega
 have hb3:(i:Int)≤(m:Int):=by omega
 have hb4:¬(cap=i):=by omega
 have hb5:i≤cap:=by omega
 have hb6:i+1≤cap:=by omega
 have hb7:i≤m+1:=by omega
 have hmd:m+1 - m=1:=by omega
 have mixed:=zAv;clear hW1 hg1 hc1 hc2 htk hs1 hdl hxl hl hgw hcur hx h1 hg e1 hs2 hzc hzl hz1 hzv hz hzs hs hby hi0
 by_cases hce:cap=i+1
 ·rw [if_pos hce] at hA
  obtain rfl:m=i:=by omega
  subst hce hA;rw [Nat.sub_self] at hap;have hb9:(m:Int)≤(m:Int)+1:=by omega
  go_enter Tryz.func131,Tryz.ntmps131
  go_wp2_with fail
  go_region_law_o (refine zBf rfl _ _ 37 rfl (.slice (some ⟨g,0,none⟩) m (m+1)) (.slice (some ⟨g,0,none⟩) 0 0) (by simp [Act.eval,Act.put]) (by simp [Act.eval,Act.put]) (hap _ _) ?_)
  go_wp2;go_ret;exact ⟨rfl,HO.o,HM.o⟩
 ·rw [if_neg hce] at hA
  subst hA
  go_enter Tryz.func131,Tryz.ntmps131
  go_wp2_with fail
  go_region_law_o (refine zBf rfl _ _ 37 rfl (.slice (some ⟨g,0,none⟩) i cap) (.slice (some ⟨g,(i+1) * 11,none⟩) (m - i) (cap - (i+1))) (by simp [Act.eval,Act.put]) (by simp [Act.eval,Act.put]) (hap _ _) ?_)
  go_wp2;go_ret;exact ⟨rfl,HO.o,HM.o⟩
theorem zZn (base n i:Nat) (v:Value) (xs:List Value) (w:World) (hown:w.ownsRow base 62 11 v n xs) (hi:i<n) (hn:n≤1000000) (h1:∀u∈xs,u.oneCell'=true) :
    Calls Tryz.prog 131 #[v,.int .i64 i,.int .i64 ((i:Int)+1)] w fun e w'=>∃v',e=.returned v'∧w'.ownsRow base 62 11 v' (n - 1) (xs.take (i * 11)++xs.drop ((i+1) * 11))∧Mod v.ownBlock.toList w w'∧v'.ownBlock=v.ownBlock:=by
  rw [show i * 11=i * 11 by omega,show (i+1) * 11=(i+1) * 11 by omega]
  obtain ⟨m,rfl⟩:∃m,n=m+1:=⟨n - 1,by omega⟩
  rw [Nat.add_sub_cancel]
  rcases hown.2 with ⟨hv,h0⟩|⟨g,cap,cur,rfl,hbg,hh,hn',hc,hs,ht⟩
  · omega
  · refine (zZm base g m cap i cur xs w hh (by omega) (by first|exact ht|simpa using ht) hbg (by omega) (by omega) hn' (by unfold maxLen at hc;omega) h1).mono ?_
    rintro e w' ⟨rfl,ho,hm⟩
    exact ⟨_,rfl,ho,hm.mono (fun k hk=>by rw [List.mem_singleton] at hk;rw [hk];simp [Value.ownBlock]),rfl⟩
theorem zZo (base g m cap i:Nat) (cur:Array Value) (xs:List Value) (w:World) (hg:w.heap[g]?=some (.cells cur 9 (0,0))) (hcur:cur.size=cap) (hx:cur.toList.take (m+1)=xs) (hbg:base≤g)
  (hi:i≤m) (hn:m≤1000000) (hmc:m+1≤cap) (hc63:cap≤9223372036854775807) (h1:∀u∈xs,u.oneCell'=true) :
  Calls Tryz.prog 74 #[.slice (some ⟨g,0,none⟩) (m+1) cap,.int .i64 i,.int .i64 ((i:Int)+1)] w fun e w'=>e=.returned (.slice (some ⟨g,0,none⟩) m cap)∧w'.ownsRow base 9 1 (.slice (some ⟨g,0,none⟩) m cap) m (xs.take (i)++xs.drop (i+1))∧Mod [g] w w':=by
 obtain ⟨i0,z,hi0,hz,hzs,hs,hby⟩:=zAj zId;have hl:cur.toList.length=cap:=by simpa using hcur
 have hxl:xs.length=m+1:=by rw [←hx,List.length_take,hl];omega
 have hdl:(xs.drop (i+1)).length=m - i:=by rw [List.length_drop,hxl];omega
 have hgw:w.drew.heap[g]?=some (.cells cur 9 (0,0)):=hg;obtain ⟨c1,hc1⟩:∃c1:Array Value,c1=(cur.toList.take (i)++xs.drop (i+1)++cur.toList.drop (i+(xs.drop (i+1)).length)).toArray:=⟨_,rfl⟩;have hs1:c1.toList.length=cap:=by rw [hc1];simp only [List.length_append,List.length_take,List.length_drop,hl,hxl];omega
 have e1:c1.toList.take (m)=xs.take (i)++xs.drop (i+1):=by
  rw [hc1,List.take_left' (by simp only [List.length_append,List.length_take,List.length_drop,hl,hxl];omega)]
  congr 1
  rw [←hx,List.take_take];congr 1;omega
 obtain ⟨A,hA⟩:∃A:Addr,A=if cap=i+1 then ⟨g,0,none⟩ else ⟨g,i+1,none⟩:=⟨_,rfl⟩
 have hap:∀ty sc,(Builtin.append_ #[50,50] ty #[.slice (some ⟨g,0,none⟩) i cap,.slice (some A) (m - i) sc]).run Tryz.prog w.drew=.ok (.slice (some ⟨g,0,none⟩) m cap) (w.drew.setRow g c1):=fun ty sc=>by
  have h:=run_append_room (P:=Tryz.prog) w.drew 50 ty 9 i0 Tryz.underlying50 hi0 g i cap cur hgw A (m - i) sc (xs.drop (i+1)) (by rw [hs,hdl];try omega) (fun j u hj=>by
    have hjl:=(List.getElem?_eq_some_iff.1 hj).1;rw [hdl] at hjl;have hne:¬cap=i+1:=by omega
    rw [hA,if_neg hne,Addr.add_lit];rw [List.getElem?_drop] at hj;refine zBo hgw ?_
    rw [←Array.getElem?_toList,←List.getElem?_take_of_lt (j:=m+1) (by omega),hx];exact hj) (fun v hv=>h1 v (List.mem_of_mem_drop hv)) (by omega) (by rw [hs,hdl,hcur];omega)
  rw [hs,show i+(m - i)=m by omega,show i * 1=i by omega] at h;rw [h,hc1]
 obtain ⟨W1,hW1⟩:∃W1,W1=w.drew.setRow g c1:=⟨_,rfl⟩;have hg1:W1.heap[g]?=some (.cells c1 9 (0,0)):=by rw [hW1];exact setRow_heap _ g cur c1 _ _ hgw
 obtain ⟨zz,hzv,hz1,hzl⟩:∃zz:Value,(∀w,(zeroValue 9).run Tryz.prog w=.ok zz w)∧(∀v∈zz.cells,v.oneCell'=true)∧zz.cells.size=1:=⟨_,Tryz.zeroValue9,by
  intro v hv;have:=List.all_eq_true.1 (show (Value.cells _).toList.all Value.oneCell'=true by kernel_rfl) v (Array.mem_toList_iff.2 hv)
  exact this,by kernel_rfl⟩
 obtain ⟨c2,hc2⟩:∃c2:Array Value,c2=(c1.toList.take (m)++(Builtin.zeroCells zz.cells 1).toList++c1.toList.drop (m+(Builtin.zeroCells zz.cells 1).size)).toArray:=⟨_,rfl⟩;have hzc:(Builtin.zeroCells zz.cells 1).size=1:=by rw [size_zeroCells,hzl]
 have hcl:∀ty cc,(Builtin.clear_ #[50] ty #[.slice (some ⟨g,m,none⟩) 1 cc]).run Tryz.prog W1=.ok (.tuple #[]) (W1.setRow g c2):=fun ty cc=>by
  rw [hc2];exact zHa W1 50 9 ty zz Tryz.underlying50 hzv hz1 g (m) 1 cc c1 _ hg1 (by omega) (by rw [hzc,←Array.length_toList,hs1];omega)
 have hs2:c2.size=cap:=by
  rw [←Array.length_toList,hc2];simp only [List.length_append,List.length_take,List.length_drop,hs1,Array.length_toList,hzc];omega
 have htk:c2.toList.take (m)=xs.take (i)++xs.drop (i+1):=by
  rw [hc2,List.append_assoc,List.take_append_of_le_length (by rw [List.length_take,hs1];omega),List.take_take,Nat.min_self,e1]
 have HM:Hid (Mod [g] w (W1.setRow g c2)):=zAr (by rw [hW1];exact zAr (Mod.refl _ w).drew (List.mem_singleton.2 rfl) _) (List.mem_singleton.2 rfl) _
 have HO:Hid ((W1.setRow g c2).ownsRow base 9 1 (.slice (some ⟨g,0,none⟩) m cap) m (xs.take (i)++xs.drop (i+1))):=
  ⟨by simp only [List.length_append,List.length_take,List.length_drop,hxl];omega,.inr ⟨g,cap,c2,rfl,hbg,setRow_heap _ g c1 c2 _ _ hg1,by omega,by unfold maxLen;omega,by rw [hs2];try omega,by first|exact htk|simpa using htk⟩⟩
 rw [←hW1] at hap;have hb1:(0:Int)≤(i:Int)+1:=by omega
 have htn:((i:Int)+1).toNat=i+1:=by omega
 have hb2:¬(cap=m):=by omega
 have hb3:(i:Int)≤(m:Int):=by omega
 have hb4:¬(cap=i):=by omega
 have hb5:i≤cap:=by omega
 have hb6:i+1≤cap:=by omega
 have hb7:i≤m+1:=by omega
 have hmd:m+1 - m=1:=by omega
 have mixed:=zAv;clear hW1 hg1 hc1 hc2 htk hs1 hdl hxl hl hgw hcur hx h1 hg e1 hs2 hzc hzl hz1 hzv hz hzs hs hby hi0
 by_cases hce:cap=i+1
 ·rw [if_pos hce] at hA
  obtain rfl:m=i:=by omega
  subst hce hA;rw [Nat.sub_self] at hap;have hb9:(m:Int)≤(m:Int)+1:=by omega
  go_enter Tryz.func74,Tryz.ntmps74
  go_wp2_with fail
  go_region_law_o (refine zBf rfl _ _ 50 rfl (.slice (some ⟨g,0,none⟩) m (m+1)) (.slice (some ⟨g,0,none⟩) 0 0) (by simp [Act.eval,Act.put]) (by simp [Act.eval,Act.put]) (hap _ _) ?_)
  go_wp2;go_ret;exact ⟨rfl,HO.o,HM.o⟩
 ·rw [if_neg hce] at hA
  subst hA
  go_enter Tryz.func74,Tryz.ntmps74
  go_wp2_with fail
  go_region_law_o (refine zBf rfl _ _ 50 rfl (.slice (some ⟨g,0,none⟩) i cap) (.slice (some ⟨g,i+1,none⟩) (m - i) (cap - (i+1))) (by simp [Act.eval,Act.put]) (by simp [Act.eval,Act.put]) (hap _ _) ?_)
  go_wp2;go_ret;exact ⟨rfl,HO.o,HM.o⟩
theorem zZp (base n i:Nat) (v:Value) (xs:List Value) (w:World) (hown:w.ownsRow base 9 1 v n xs) (hi:i<n) (hn:n≤1000000) (h1:∀u∈xs,u.oneCell'=true) :
    Calls Tryz.prog 74 #[v,.int .i64 i,.int .i64 ((i:Int)+1)] w fun e w'=>∃v',e=.returned v'∧w'.ownsRow base 9 1 v' (n - 1) (xs.take (i * 1)++xs.drop ((i+1) * 1))∧Mod v.ownBlock.toList w w'∧v'.ownBlock=v.ownBlock:=by
  rw [show i * 1=i by omega,show (i+1) * 1=i+1 by omega]
  obtain ⟨m,rfl⟩:∃m,n=m+1:=⟨n - 1,by omega⟩
  rw [Nat.add_sub_cancel]
  rcases hown.2 with ⟨hv,h0⟩|⟨g,cap,cur,rfl,hbg,hh,hn',hc,hs,ht⟩
  · omega
  · refine (zZo base g m cap i cur xs w hh (by omega) (by first|exact ht|simpa using ht) hbg (by omega) (by omega) hn' (by unfold maxLen at hc;omega) h1).mono ?_
    rintro e w' ⟨rfl,ho,hm⟩
    exact ⟨_,rfl,ho,hm.mono (fun k hk=>by rw [List.mem_singleton] at hk;rw [hk];simp [Value.ownBlock]),rfl⟩
structure MV where
  m:OMod
  u:Value
  d:Value
def mvC (x:MV):List Value:=[.string x.m.label,x.u,x.d]
structure MR (w0 w:World) (x:MV):Prop where
  uses:w.ownsRow w0.heap.size 9 1 x.u x.m.uses.length (x.m.uses.map .string)
  decls:∃xs,w.ownsRow w0.heap.size 62 11 x.d x.m.decls.length xs∧ReadsL w0 [] (x.m.decls.flatMap declT) xs
def NewB (w:World) (u v:Value):Prop:=v.ownBlock=u.ownBlock∨∃k,v.ownBlock=some k∧w.heap.size≤k
def blk (v:Value):List Nat:=v.ownBlock.toList
def Stored (g o:Nat) (x y:MV) (W w':World):Prop:=
  (w'=W∧y.u=x.u∧y.d=x.d)∨(w'=W.setCell ⟨g,o+1,none⟩ y.u∧y.d=x.d)∨(w'=W.setCell ⟨g,o+2,none⟩ y.d∧y.u=x.u)
def EffPost (w0 w:World) (g o:Nat) (x:MV) (e:OEdit) (r:Ending) (w':World):Prop:=
  r=.returned (.int .i64 (inMod x.m e).2)∧((inMod x.m e).2≠0→Below w.heap.size w w') ∧
  ((inMod x.m e).2=0→∃(y:MV) (W:World),y.m=(inMod x.m e).1∧Stored g o x y W w'∧Mod (blk x.u++blk x.d) w W∧MR w0 W y∧NewB w x.u y.u∧NewB w x.d y.d)
structure ModAt (w:World) (g o:Nat) (x:MV):Prop where
 lt:g<w.heap.size
 c0:w.cell? ⟨g,o,none⟩=some (.string x.m.label)
 c1:w.cell? ⟨g,o+1,none⟩=some x.u
 c2:w.cell? ⟨g,o+2,none⟩=some x.d
 f1:w.frozen? ⟨g,o+1,none⟩=false
 f2:w.frozen? ⟨g,o+2,none⟩=false
theorem ModAt.below {w w':World} {g o:Nat} {x:MV} (h:ModAt w g o x) (m:Bw w w'):ModAt w' g o x:=
 ⟨Nat.lt_of_lt_of_le h.lt m.size,(m.cell (p:=⟨g,_,none⟩) h.lt).trans h.c0,(m.cell (p:=⟨g,_,none⟩) h.lt).trans h.c1,(m.cell (p:=⟨g,_,none⟩) h.lt).trans h.c2,(m.frozen (p:=⟨g,_,none⟩) h.lt).trans h.f1,(m.frozen (p:=⟨g,_,none⟩) h.lt).trans h.f2⟩
theorem ModAt.mod {w w':World} {g o:Nat} {x:MV} {X:List Nat} (h:ModAt w g o x) (m:Mod X w w') (hg:g∉X):ModAt w' g o x:=by
 have hb:=m.block g h.lt hg;exact ⟨Nat.lt_of_lt_of_le h.lt m.size,(World.cell?_of_block hb).trans h.c0,(World.cell?_of_block hb).trans h.c1,(World.cell?_of_block hb).trans h.c2,(World.frozen?_of_block hb).trans h.f1,(World.frozen?_of_block hb).trans h.f2⟩
theorem MR.below {w0 w w':World} {x:MV} (h:MR w0 w x) (m:Bw w w'):MR w0 w' x:=by
 obtain ⟨h1,xs,h2,h3⟩:=h;exact ⟨zAi h1 m,xs,zAi h2 m,h3⟩
theorem MR.strs {w0 w:World} {x:MV} (h:MR w0 w x):Strs w x.u x.m.uses:=zBb h.uses
theorem MR.reads {w0 w:World} {x:MV} (h:MR w0 w x) (hb:Bw w0 w):Reads w [] (declsT x.m.decls) x.d:=by
 obtain ⟨xs,h2,h3⟩:=h.decls;exact Reads.ofRow (zAm h2) (fun _ b _=>by simp) (h3.below hb)
theorem zWg {α β:Type} (f:α→β) (l:List α) (i:Nat) (x:α):(insAt l i x).map f=(l.map f).take i++[f x]++(l.map f).drop i:=by
 unfold insAt;simp
theorem zWh {α β:Type} (f:α→β) (l:List α) (i:Nat):(delAt l i).map f=(l.map f).take i++(l.map f).drop (i+1):=by
 unfold delAt;simp
theorem zJt {α:Type} (l:List α) {i:Nat} (h:i≤l.length) (x:α):(insAt l i x).length=l.length+1:=by
 unfold insAt;simp;omega
theorem zJu {α:Type} (l:List α) {i:Nat} (h:i<l.length):(delAt l i).length=l.length - 1:=by
 unfold delAt;simp;omega
theorem zJv (ad:Addr) (n c:Nat) (w:World):(binOp .eql 37 (.slice (some ad) n c) (.slice none 0 0)).run Tryz.prog w=.ok (.bool false) w:=Lib.run_eql_slice_nil w _ _ (some ad) n c 0 0 Tryz.underlying37
theorem zJw (n c:Nat) (w:World):(binOp .eql 37 (.slice none n c) (.slice none 0 0)).run Tryz.prog w=.ok (.bool true) w:=Lib.run_eql_slice_nil w _ _ none n c 0 0 Tryz.underlying37
attribute [local go_sem] zJv zJw
end Go.Proofs.YtfkjfdbjhlmjcaaGreatDoor
