/- Searching in ascending rows: -/
import Derived.Test.YtfkjfdbjhlmjcaaGreatDoorXPA
import Derived.Test.YtfkjfdbjhlmjcaaGreatDoorXShJ
import Derived.Shelf.Spec.SlicesInsertGrow
set_option maxRecDepth 100000
set_option maxHeartbeats 16000000
namespace Go.Proofs.YtfkjfdbjhlmjcaaGreatDoor
open Go.RowKit Go.Shelf
attribute [local go_sem] Oper.semAt_some
theorem zOb:∀a b:List UInt8,(Lib.compareBytes a b<0↔Op.bytesLess a b=true)∧(Lib.compareBytes a b=0↔a=b)
 | [],[]=>by simp [Lib.compareBytes,Op.bytesLess]
 | [],_::_=>by simp [Lib.compareBytes,Op.bytesLess]
 | _::_,[]=>by simp [Lib.compareBytes,Op.bytesLess]
 | x::a,y::b=>by
  have ih:=zOb a b;simp only [Lib.compareBytes,Op.bytesLess,Bool.or_eq_true,decide_eq_true_eq,Bool.and_eq_true,beq_iff_eq,List.cons.injEq]
  by_cases h1:x<y
  ·rw [if_pos h1]
   refine ⟨⟨fun _=>.inl h1,fun _=>(by decide)⟩,⟨fun h=>(by cases h),fun h=>?_⟩⟩;rw [h.1] at h1;exact absurd h1 (UInt8.lt_irrefl _)
  ·rw [if_neg h1]
   by_cases h2:y<x
   ·rw [if_pos h2]
    refine ⟨⟨fun h=>absurd h (by decide),fun h=>?_⟩,⟨fun h=>(by cases h),fun h=>?_⟩⟩
    ·rcases h with h|h
     ·exact absurd h h1
     ·rw [h.1] at h2;exact absurd h2 (UInt8.lt_irrefl _)
    ·rw [h.1] at h2;exact absurd h2 (UInt8.lt_irrefl _)
   ·rw [if_neg h2]
    have e:x=y:=by
     rcases Nat.lt_trichotomy x.toNat y.toNat with h|h|h
     ·exact absurd (UInt8.lt_iff_toNat_lt.2 h) h1
     ·exact UInt8.toNat_inj.1 h
     ·exact absurd (UInt8.lt_iff_toNat_lt.2 h) h2
    refine ⟨ih.1.trans ⟨fun h=>.inr ⟨e,h⟩,fun h=>?_⟩,ih.2.trans ⟨fun h=>⟨e,h⟩,fun h=>h.2⟩⟩
    rcases h with h|h
    ·exact absurd h h1
    ·exact h.2
theorem yEy (a b:ByteArray):decide (Lib.compareBytes a.data.toList b.data.toList<0)=ltB a b:=by
 rw [Bool.eq_iff_iff,decide_eq_true_eq,(zOb _ _).1,ltB,tl,tl]
theorem yEz (a b:ByteArray):Lib.compareBytes a.data.toList b.data.toList=0↔a=b:=(zOb _ _).2.trans ⟨yEw,fun h=>by rw [h]⟩
theorem zQd (a b:ByteArray) (w:World):Calls Tryz.prog 134 #[.string a,.string b] w fun e w'=>e=.returned (.int .i64 (Lib.compareBytes a.data.toList b.data.toList))∧w'=w:=Any.strings_Compare Tryz.cmpS a b w
theorem zFj (label s:ByteArray) (u v:Value) (w:World):Calls Tryz.prog 133 #[.agg #[.string label,u,v],.string s] w fun e w'=>e=.returned (.int .i64 (Lib.compareBytes label.data.toList s.data.toList))∧Bw w w':=by
 have HC:=fun w=>lH (zQd label s w);generalize Lib.compareBytes label.data.toList s.data.toList=r at *
 go_enter Tryz.func133,Tryz.ntmps133
 go_wp2_with (fail)
 refine (HC _).out.mono ?_;rintro e w1 ⟨rfl,rfl⟩;go_wp2;go_ret;exact ⟨rfl,zAa _ _⟩
theorem zOc {a b c:World} (h:Bw a b) (k:Bw b c):Bw a c:=zA h k
def inR (i:Int):Prop:=-4611686018427387904≤i∧i≤4611686018427387903
theorem zHi (d:ODecl) (i:Int) (an:Option Addr) (cn:Nat) (sa:Option Addr) (cs:Nat) (w:World) (h1:inR d.id) (h2:inR i):Calls Tryz.prog 127 #[declV d an cn sa cs,.int .i64 i] w fun e w'=>e=.returned (.int .i64 (d.id - i))∧Bw w w':=by
 have hw:IntKind.i64.wrap (d.id - i)=d.id - i:=IntWalk.i64_in _ (by unfold inR at *;omega);clear h1 h2;unfold declV
 go_enter Tryz.func127,Tryz.ntmps127
 go_wp2;go_ret;exact ⟨rfl,zAa _ _⟩
structure Srch {α κ:Type} (lt:κ→κ→Bool) (key:α→κ) (l:List α) (k:κ) (p:Nat) (f:Bool):Prop where
  le:p≤l.length
  lo:∀i x,l[i]?=some x→i<p→lt (key x) k=true
  hi:∀i x,l[i]?=some x→p≤i→lt (key x) k=false
  yes:f=true→∃x,l[p]?=some x∧key x=k
  no:f=false→∀x,l[p]?=some x→key x≠k
theorem zYt {α κ:Type} {lt:κ→κ→Bool} {key:α→κ} (S:SO lt) {l:List α} (h:Asc lt key l) (k:κ):Srch lt key l k (plc lt key l k) (look lt key l k).isSome:=by
 have h1:∀P R,l=P++R→P.length=plc lt key l k→(∀x∈P,lt (key x) k=true)→(∀x∈R,lt (key x) k=false)→(∀i x,l[i]?=some x→i<plc lt key l k→lt (key x) k=true)∧∀i x,l[i]?=some x→plc lt key l k≤i→lt (key x) k=false:=by
  intro P R hl hp a b
  constructor
  ·intro i x hx hi
   rw [hl,List.getElem?_append_left (by omega)] at hx;exact a x (List.mem_of_getElem? hx)
  ·intro i x hx hi
   rw [hl,List.getElem?_append_right (by omega)] at hx;exact b x (List.mem_of_getElem? hx)
 have asym:∀{a b:κ},lt a b=true→lt b a=false:=fun {a b} h=>by
  rw [←Bool.not_eq_true];intro c;have:=S.tr h c;rw [S.irr] at this;cases this
 obtain ⟨q1,q2⟩:(∀i x,l[i]?=some x→i<plc lt key l k→lt (key x) k=true)∧∀i x,l[i]?=some x→plc lt key l k≤i→lt (key x) k=false:=by
  rcases zQ S h k with ⟨P,R,y,hl,hp,hk,a1,a2⟩|⟨P,R,hl,hp,a1,a2⟩
  ·exact h1 P (y::R) hl hp a1 fun x hx=>by
    rcases List.mem_cons.1 hx with rfl|hx
    ·rw [hk,S.irr]
    ·exact asym (a2 x hx)
  ·exact h1 P R hl hp a1 fun x hx=>asym (a2 x hx)
 rcases zCf S h k with ⟨y,H⟩|H
 ·exact ⟨zTx _ _,q1,q2,fun _=>⟨y,H.elt,H.ky⟩,fun c=>by rw [H.look] at c;cases c⟩
 ·exact ⟨zTx _ _,q1,q2,fun c=>(by rw [H.look] at c;cases c),fun _=>H.elt⟩
theorem yBn (l:List OMod) (a:Option Addr) (c:Nat) (s:ByteArray) (w:World) (hr:Reads w [] (modsT l) (.slice a l.length c)) (ha:Asc ltB OMod.label l) (hn:l.length≤1000000) :
  Calls Tryz.prog 132 #[.slice a l.length c,.string s,.func (.func 133) #[] #[]] w fun e w'=>e=.returned (.tuple #[.int .i64 (plc ltB OMod.label l s:Nat),.bool (look ltB OMod.label l s).isSome])∧Bw w w':=by
 have HS:=lH (zYt zOa ha s);have HR:=lH hr;have hp:=HS.o.le;clear hr ha;generalize plc ltB OMod.label l s=p at *;generalize (look ltB OMod.label l s).isSome=f at *
 go_enter Tryz.func132,Tryz.ntmps132
 go_wp2
 go_loopw [9,10] (fun iv jv wr=>∃lo hi:Nat,iv=.int .i64 lo∧jv=.int .i64 hi∧lo≤p∧p≤hi∧hi≤l.length∧Bw w wr) (fun iv jv _=>(intOf jv).toNat - (intOf iv).toNat)
 case atStart=>exact ⟨0,l.length,rfl,rfl,Nat.zero_le _,hp,Nat.le_refl _,zAl _⟩
 case round=>
  obtain ⟨lo,hi,rfl,rfl,hlp,hph,hhl,hb⟩:=hrel
  by_cases hlt:lo<hi
  ·have hd:decide ((lo:Int)<(hi:Int))=true:=decide_eq_true (by omega)
   obtain ⟨q,hq⟩:∃q:Nat,q=(lo+hi) / 2:=⟨_,rfl⟩;have hql:q<l.length:=by omega
   obtain ⟨b,o,au,cu,ad,cd,rfl,hbl,c0,c1,c2,-⟩:=zBz (HR.o.below hb) (List.getElem?_eq_getElem hql);have hlo:=HS.o.lo q _ (List.getElem?_eq_getElem hql);have hhi:=HS.o.hi q _ (List.getElem?_eq_getElem hql);generalize l[q]=m at *;have HC:=fun w=>lH (zFj m.label s (.slice au m.uses.length cu) (.slice ad m.decls.length cd) w);have HLT:=yEy m.label s;generalize Lib.compareBytes m.label.data.toList s.data.toList=r at *;have hmid:((lo:Int)+(hi:Int)) / 2=(q:Int):=by omega
   have HQ:=lH hq;rw [←HLT] at hlo hhi;clear HS HR hq HLT;go_wp2_with (fail)
   refine (HC _).out.mono ?_;rintro e w1 ⟨rfl,hb1⟩;have hB1:=zOc hb hb1
   cases hlt2:decide (r<0) with
   | true=>
    have hqp:q<p:=Nat.lt_of_not_le fun c=>by rw [hhi c] at hlt2;cases hlt2
    clear hlo hhi;go_wp2;go_roundw
    case rel=>exact ⟨q+1,hi,by go_num,rfl,by omega,hph,hhl,hB1⟩
    case measure=>have:=HQ.o;simp [intOf];omega
   | false=>
    have hqp:p≤q:=Nat.le_of_not_lt fun c=>by rw [hlo c] at hlt2;cases hlt2
    clear hlo hhi;go_wp2;go_roundw
    case rel=>exact ⟨lo,q,rfl,rfl,hlp,hqp,by omega,hB1⟩
    case measure=>have:=HQ.o;simp [intOf];omega
  ·obtain rfl:lo=p:=by omega
   obtain rfl:hi=lo:=by omega
   by_cases hpl:hi<l.length
   ·obtain ⟨b,o,au,cu,ad,cd,rfl,hbl,c0,c1,c2,-⟩:=zBz (HR.o.below hb) (List.getElem?_eq_getElem hpl)
    have hy:=HS.o.yes;have hnn:=HS.o.no;rw [List.getElem?_eq_getElem hpl] at hy hnn;generalize l[hi]=m at *;have HC:=fun w=>lH (zFj m.label s (.slice au m.uses.length cu) (.slice ad m.decls.length cd) w);have HEQ:=yEz m.label s;generalize Lib.compareBytes m.label.data.toList s.data.toList=r at *
    have HF:Hid ((r==0)=f):=by
     show _=_
     cases f with
     | true=>obtain ⟨x,hx,e⟩:=hy rfl;injection hx with hx;subst hx;rw [HEQ.2 e];rfl
     | false=>have h5:=hnn rfl m rfl;have h6:¬r=0:=fun c=>h5 (HEQ.1 c);simpa using h6
    have hd:decide ((hi:Int)<(l.length:Int))=true:=decide_eq_true (by omega);clear HS HR hy hnn HEQ;go_wp2_with (fail)
    refine (HC _).out.mono ?_;rintro e w1 ⟨rfl,hb1⟩;have HB1:=lH (zOc hb hb1);clear HC hb hb1;go_wp2;go_ret2;exact ⟨by first|rfl|(rw [HF.o];rfl),HB1.o⟩
   ·have hd:decide ((hi:Int)<(l.length:Int))=false:=decide_eq_false (by omega)
    have hf:f=false:=by
     cases f with
     | false=>rfl
     | true=>obtain ⟨x,hx,_⟩:=HS.o.yes rfl;rw [List.getElem?_eq_none (by omega)] at hx;cases hx
    subst hf;have HB:=lH hb;clear HS HR hb;go_wp2;go_ret2;exact ⟨rfl,HB.o⟩
theorem yBo (l:List ODecl) (a:Option Addr) (c:Nat) (s:Int) (w:World) (hr:Reads w [] (declsT l) (.slice a l.length c)) (ha:Asc ltI ODecl.id l) (hR:∀d∈l,inR d.id) (hI:inR s)(hn:l.length≤1000000) :
  Calls Tryz.prog 126 #[.slice a l.length c,.int .i64 s,.func (.func 127) #[] #[]] w fun e w'=>e=.returned (.tuple #[.int .i64 (plc ltI ODecl.id l s:Nat),.bool (look ltI ODecl.id l s).isSome])∧Bw w w':=by
 have HS:=lH (zYt yDv ha s);have HR:=lH hr;have hp:=HS.o.le;clear hr ha;generalize plc ltI ODecl.id l s=p at *;generalize (look ltI ODecl.id l s).isSome=f at *
 go_enter Tryz.func126,Tryz.ntmps126
 go_wp2
 go_loopw [9,10] (fun iv jv wr=>∃lo hi:Nat,iv=.int .i64 lo∧jv=.int .i64 hi∧lo≤p∧p≤hi∧hi≤l.length∧Bw w wr) (fun iv jv _=>(intOf jv).toNat - (intOf iv).toNat)
 case atStart=>exact ⟨0,l.length,rfl,rfl,Nat.zero_le _,hp,Nat.le_refl _,zAl _⟩
 case round=>
  obtain ⟨lo,hi,rfl,rfl,hlp,hph,hhl,hb⟩:=hrel
  by_cases hlt:lo<hi
  ·have hd:decide ((lo:Int)<(hi:Int))=true:=decide_eq_true (by omega)
   obtain ⟨q,hq⟩:∃q:Nat,q=(lo+hi) / 2:=⟨_,rfl⟩;have hql:q<l.length:=by omega
   obtain ⟨b,o,an,cn,sa,cs,rfl,hbl,hc,-⟩:=zAv (HR.o.below hb) (List.getElem?_eq_getElem hql);have hlo:=HS.o.lo q _ (List.getElem?_eq_getElem hql);have hhi:=HS.o.hi q _ (List.getElem?_eq_getElem hql);have him:=hR _ (List.getElem_mem hql);generalize l[q]=m at *;have HC:=fun w=>lH (zHi m s an cn sa cs w him hI);have HLT:decide (m.id - s<0)=ltI m.id s:=by unfold ltI;rw [decide_eq_decide];omega
   generalize m.id - s=r at *;have c0:wr.cell? ⟨b,o+q * 11,none⟩=some (.int .i64 m.id):=hc 0 _ rfl;have c1:=hc 1 _ rfl;have c2:=hc 2 _ rfl;have c3:=hc 3 _ rfl;have c4:=hc 4 _ rfl;have c5:=hc 5 _ rfl;have c6:=hc 6 _ rfl;have c7:=hc 7 _ rfl;have c8:=hc 8 _ rfl;have c9:=hc 9 _ rfl;have c10:=hc 10 _ rfl;unfold declV at HC;clear hc him;have hmid:((lo:Int)+(hi:Int)) / 2=(q:Int):=by omega
   have HQ:=lH hq;rw [←HLT] at hlo hhi;clear HS HR hq HLT;go_wp2_with (fail)
   refine (HC _).out.mono ?_;rintro e w1 ⟨rfl,hb1⟩;have hB1:=zOc hb hb1
   cases hlt2:decide (r<0) with
   | true=>
    have hqp:q<p:=Nat.lt_of_not_le fun c=>by rw [hhi c] at hlt2;cases hlt2
    clear hlo hhi;go_wp2;go_roundw
    case rel=>exact ⟨q+1,hi,by go_num,rfl,by omega,hph,hhl,hB1⟩
    case measure=>have:=HQ.o;simp [intOf];omega
   | false=>
    have hqp:p≤q:=Nat.le_of_not_lt fun c=>by rw [hlo c] at hlt2;cases hlt2
    clear hlo hhi;go_wp2;go_roundw
    case rel=>exact ⟨lo,q,rfl,rfl,hlp,hqp,by omega,hB1⟩
    case measure=>have:=HQ.o;simp [intOf];omega
  ·obtain rfl:lo=p:=by omega
   obtain rfl:hi=lo:=by omega
   by_cases hpl:hi<l.length
   ·obtain ⟨b,o,an,cn,sa,cs,rfl,hbl,hc,-⟩:=zAv (HR.o.below hb) (List.getElem?_eq_getElem hpl)
    have hy:=HS.o.yes;have hnn:=HS.o.no;rw [List.getElem?_eq_getElem hpl] at hy hnn;have him:=hR _ (List.getElem_mem hpl);generalize l[hi]=m at *;have HC:=fun w=>lH (zHi m s an cn sa cs w him hI);have HEQ:m.id - s=0↔m.id=s:=by omega
    generalize m.id - s=r at *;have c0:wr.cell? ⟨b,o+hi * 11,none⟩=some (.int .i64 m.id):=hc 0 _ rfl;have c1:=hc 1 _ rfl;have c2:=hc 2 _ rfl;have c3:=hc 3 _ rfl;have c4:=hc 4 _ rfl;have c5:=hc 5 _ rfl;have c6:=hc 6 _ rfl;have c7:=hc 7 _ rfl;have c8:=hc 8 _ rfl;have c9:=hc 9 _ rfl;have c10:=hc 10 _ rfl;unfold declV at HC;clear hc him
    have HF:Hid ((r==0)=f):=by
     show _=_
     cases f with
     | true=>obtain ⟨x,hx,e⟩:=hy rfl;injection hx with hx;subst hx;rw [HEQ.2 e];rfl
     | false=>have h5:=hnn rfl m rfl;have h6:¬r=0:=fun c=>h5 (HEQ.1 c);simpa using h6
    have hd:decide ((hi:Int)<(l.length:Int))=true:=decide_eq_true (by omega);clear HS HR hy hnn HEQ;go_wp2_with (fail)
    refine (HC _).out.mono ?_;rintro e w1 ⟨rfl,hb1⟩;have HB1:=lH (zOc hb hb1);clear HC hb hb1;go_wp2;go_ret2;exact ⟨by first|rfl|(rw [HF.o];rfl),HB1.o⟩
   ·have hd:decide ((hi:Int)<(l.length:Int))=false:=decide_eq_false (by omega)
    have hf:f=false:=by
     cases f with
     | false=>rfl
     | true=>obtain ⟨x,hx,_⟩:=HS.o.yes rfl;rw [List.getElem?_eq_none (by omega)] at hx;cases hx
    subst hf;have HB:=lH hb;clear HS HR hb;go_wp2;go_ret2;exact ⟨rfl,HB.o⟩
theorem zLo (l:List OMod) (a:Option Addr) (c:Nat) (s:ByteArray) (w:World) (hr:Reads w [] (modsT l) (.slice a l.length c)) (ha:Asc ltB OMod.label l) (hn:l.length≤1000000) :
  Calls Tryz.prog 82 #[.slice a l.length c,.string s] w fun e w'=>e=.returned (.tuple #[.int .i64 (plc ltB OMod.label l s:Nat),.bool (look ltB OMod.label l s).isSome])∧Bw w w':=by
 have HC:=lH (yBn l a c s w hr ha  hn);generalize plc ltB OMod.label l s=p at *;generalize (look ltB OMod.label l s).isSome=f at *;clear hr ha
 go_enter Tryz.func82,Tryz.ntmps82
 go_wp2_with (fail)
 refine HC.o.mono ?_;rintro e w1 ⟨rfl,hb1⟩;go_wp2;go_ret2;exact ⟨rfl,hb1⟩
theorem zQe (l:List ODecl) (a:Option Addr) (c:Nat) (s:Int) (w:World) (hr:Reads w [] (declsT l) (.slice a l.length c)) (ha:Asc ltI ODecl.id l) (hR:∀d∈l,inR d.id) (hI:inR s)(hn:l.length≤1000000) :
  Calls Tryz.prog 76 #[.slice a l.length c,.int .i64 s] w fun e w'=>e=.returned (.tuple #[.int .i64 (plc ltI ODecl.id l s:Nat),.bool (look ltI ODecl.id l s).isSome])∧Bw w w':=by
 have HC:=lH (yBo l a c s w hr ha hR hI hn);generalize plc ltI ODecl.id l s=p at *;generalize (look ltI ODecl.id l s).isSome=f at *;clear hr ha
 go_enter Tryz.func76,Tryz.ntmps76
 go_wp2_with (fail)
 refine HC.o.mono ?_;rintro e w1 ⟨rfl,hb1⟩;go_wp2;go_ret2;exact ⟨rfl,hb1⟩
theorem yDf {a b:ByteArray} (h:a≠b):(a.toList==b.toList)=false:=by
 rw [←Bool.not_eq_true];exact fun c=>h (zKe.1 c)
structure MV where
  m:OMod
  u:Value
  d:Value
def mvC (x:MV):List Value:=[.string x.m.label,x.u,x.d]
structure MR (w0 w:World) (x:MV):Prop where
  uses:w.ownsRow w0.heap.size 9 1 x.u x.m.uses.length (x.m.uses.map .string)
  decls:∃xs,w.ownsRow w0.heap.size 62 11 x.d x.m.decls.length xs∧ReadsL w0 [] (x.m.decls.flatMap declT) xs
def NewB (w:World) (u v:Value):Prop:=v.ownBlock=u.ownBlock∨∃k,v.ownBlock=some k∧w.heap.size≤k
def blk (v:Value):List Nat:=v.ownBlock.toList
def Stored (g o:Nat) (x y:MV) (W w':World):Prop:=
  (w'=W∧y.u=x.u∧y.d=x.d)∨(w'=W.setCell ⟨g,o+1,none⟩ y.u∧y.d=x.d)∨(w'=W.setCell ⟨g,o+2,none⟩ y.d∧y.u=x.u)
def EffPost (w0 w:World) (g o:Nat) (x:MV) (e:OEdit) (r:Ending) (w':World):Prop:=
  r=.returned (.int .i64 (inMod x.m e).2)∧((inMod x.m e).2≠0→Below w.heap.size w w') ∧
  ((inMod x.m e).2=0→∃(y:MV) (W:World),y.m=(inMod x.m e).1∧Stored g o x y W w'∧Mod (blk x.u++blk x.d) w W∧MR w0 W y∧NewB w x.u y.u∧NewB w x.d y.d)
structure ModAt (w:World) (g o:Nat) (x:MV):Prop where
 lt:g<w.heap.size
 c0:w.cell? ⟨g,o,none⟩=some (.string x.m.label)
 c1:w.cell? ⟨g,o+1,none⟩=some x.u
 c2:w.cell? ⟨g,o+2,none⟩=some x.d
 f1:w.frozen? ⟨g,o+1,none⟩=false
 f2:w.frozen? ⟨g,o+2,none⟩=false
theorem ModAt.below {w w':World} {g o:Nat} {x:MV} (h:ModAt w g o x) (m:Bw w w'):ModAt w' g o x:=
 ⟨Nat.lt_of_lt_of_le h.lt m.size,(m.cell (p:=⟨g,_,none⟩) h.lt).trans h.c0,(m.cell (p:=⟨g,_,none⟩) h.lt).trans h.c1,(m.cell (p:=⟨g,_,none⟩) h.lt).trans h.c2,(m.frozen (p:=⟨g,_,none⟩) h.lt).trans h.f1,(m.frozen (p:=⟨g,_,none⟩) h.lt).trans h.f2⟩
theorem MR.below {w0 w w':World} {x:MV} (h:MR w0 w x) (m:Bw w w'):MR w0 w' x:=by
 obtain ⟨h1,xs,h2,h3⟩:=h;exact ⟨zAq h1 m,xs,zAq h2 m,h3⟩
theorem MR.strs {w0 w:World} {x:MV} (h:MR w0 w x):Strs w x.u x.m.uses:=zAi h.uses
theorem MR.reads {w0 w:World} {x:MV} (h:MR w0 w x) (hb:Bw w0 w):Reads w [] (declsT x.m.decls) x.d:=by
 obtain ⟨xs,h2,h3⟩:=h.decls;exact Reads.ofRow (zAs h2) (fun _ b _=>by simp) (h3.below hb)
theorem zKm (ad:Addr) (n c:Nat) (w:World):(binOp .eql 37 (.slice (some ad) n c) (.slice none 0 0)).run Tryz.prog w=.ok (.bool false) w:=Lib.run_eql_slice_nil w _ _ (some ad) n c 0 0 Tryz.underlying37
theorem zKn (n c:Nat) (w:World):(binOp .eql 37 (.slice none n c) (.slice none 0 0)).run Tryz.prog w=.ok (.bool true) w:=Lib.run_eql_slice_nil w _ _ none n c 0 0 Tryz.underlying37
attribute [local go_sem] zKm zKn
end Go.Proofs.YtfkjfdbjhlmjcaaGreatDoor
