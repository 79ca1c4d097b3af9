/- The reference's SameDecls, Same of edits. -/
import Derived.Test.YtfkjfdbjhlmjcaaGreatDoorXSEn
import Derived.Laws.EntriesVeiled
set_option maxRecDepth 100000
set_option maxHeartbeats 16000000
namespace Go.Proofs.YtfkjfdbjhlmjcaaGreatDoor
open Go.RowKit Go.Shelf
attribute [local go_sem] Oper.semAt_some
def sameDs:List ODecl→List ODecl→Bool
 | [],[]=>true
 | a::r,b::s=>sameD a b && sameDs r s
 | _,_=>false
theorem zFz:∀{l m:List ODecl},sameDs l m=true↔l=m
 | [],[]=>by simp [sameDs]
 | [],b::s=>by simp [sameDs]
 | a::r,[]=>by simp [sameDs]
 | a::r,b::s=>by simp [sameDs,zFf,zFz]
theorem zVz {l m:List ODecl} (h:l.length≠m.length):sameDs l m=false:=by
 cases e:sameDs l m with
 | false=>rfl
 | true=>exact absurd (congrArg List.length (zFz.1 e)) h
theorem zYl {l m:List ODecl} {i:Nat} {x y:ODecl} (hx:l[i]?=some x) (hy:m[i]?=some y):sameDs (l.drop i) (m.drop i)=(sameD x y && sameDs (l.drop (i+1)) (m.drop (i+1))):=by
 obtain ⟨h1,e1⟩:=List.getElem?_eq_some_iff.1 hx;obtain ⟨h2,e2⟩:=List.getElem?_eq_some_iff.1 hy;rw [List.drop_eq_getElem_cons h1,List.drop_eq_getElem_cons h2,sameDs,e1,e2]
theorem zW {l m:List ODecl} {i:Nat} (hl:l.length≤i) (hm:m.length≤i):sameDs (l.drop i) (m.drop i)=true:=by
 rw [List.drop_eq_nil_of_le hl,List.drop_eq_nil_of_le hm,sameDs]
def sameE (a b:OEdit):Bool:=a.kind==b.kind && (eqS a.pack b.pack && (eqS a.text b.text && (sameDs a.old b.old && sameDs a.fresh b.fresh)))
theorem zYm {a b:OEdit}:sameE a b=true↔a=b:=by
 cases a;cases b
 simp only [sameE,Bool.and_eq_true,beq_iff_eq,zKe,zFz,OEdit.mk.injEq]
theorem zEb (l m:List ODecl) (a b:Option Addr) (c d:Nat) (w:World) (hl:Reads w [] (declsT l) (.slice a l.length c)) (hm:Reads w [] (declsT m) (.slice b m.length d)) (hs:∀x∈l,x.names.length≤1000000∧nodesN x.body≤1000000) (hn:l.length≤1000000) :
  Calls Tryz.prog 67 #[.slice a l.length c,.slice b m.length d] w fun e w'=>e=.returned (.bool (sameDs l m))∧Bw w w':=by
 have HL:=lH hl;have HM:=lH hm;have HS:=lH hs;have HE:Hid (sameDs l m=sameDs (l.drop 0) (m.drop 0)):=rfl;have HLEN:=lH (zVz (l:=l) (m:=m));clear hl hm hs;generalize sameDs l m=T at *
 by_cases hlen:l.length=m.length
 rotate_left
 ·have q1:((l.length:Int) != (m.length:Int))=true:=bne_iff_ne.2 (by omega)
  have HF:=lH (HLEN.o hlen);clear hlen HLEN
  go_enter Tryz.func67,Tryz.ntmps67
  go_wp2;go_ret;exact ⟨zAb HF.o.symm,zAl _⟩
 have q1:((l.length:Int) != (m.length:Int))=false:=by rw [hlen];simp
 have HLE:=lH hlen;clear hlen HLEN
 go_enter Tryz.func67,Tryz.ntmps67
 go_wp2
 go_loopw [5] (fun iv wr=>∃i:Nat,i≤l.length∧iv=.int .i64 i∧Hid (T=sameDs (l.drop i) (m.drop i))∧Bw w wr) (fun iv _=>l.length - (intOf iv).toNat)
 case atStart=>exact ⟨0,Nat.zero_le _,rfl,HE,zAl _⟩
 case round=>
  obtain ⟨i,hil,rfl,HI,hb⟩:=hrel
  by_cases hi:i<l.length
  ·have hd:decide ((i:Int)<(l.length:Int))=true:=decide_eq_true (by omega)
   have hi2:i<m.length:=by rw [←HLE.o];exact hi
   have hir:(i:Int)<(l.length:Int):=by omega
   have hir2:(i:Int)<(m.length:Int):=by omega
   obtain ⟨x,hx⟩:∃x,l[i]?=some x:=⟨_,List.getElem?_eq_getElem hi⟩;obtain ⟨y,hy⟩:∃y,m[i]?=some y:=⟨_,List.getElem?_eq_getElem hi2⟩;obtain ⟨b1,o1,an,cn,sa,cs,rfl,hb1,hc1,xn1,xn2,xsn,xs1,xs2,xsr⟩:=zAv (HL.o.below hb) hx;obtain ⟨b2,o2,bn,cm,sb,ct,rfl,hb2,hc2,yn1,yn2,ysn,ys1,ys2,ysr⟩:=zAv (HM.o.below hb) hy;have hsx:=HS.o x (List.mem_of_getElem? hx)
   have HC:=lH (fun w' (h':Bw wr w')=>zEq x y an cn sa cs bn cm sb ct w' (DeclIn.below ⟨xsn.out,xsr.out,xn1,xn2,xs1,xs2⟩ h') (DeclIn.below ⟨ysn.out,ysr.out,yn1,yn2,ys1,ys2⟩ h') hsx.1 hsx.2);have HN:=lH (HI.o.trans (zYl hx hy));have x0:=hc1 0 _ rfl;have y0:=hc2 0 _ rfl;have x1:=hc1 1 _ rfl;have y1:=hc2 1 _ rfl;have x2:=hc1 2 _ rfl;have y2:=hc2 2 _ rfl;have x3:=hc1 3 _ rfl;have y3:=hc2 3 _ rfl;have x4:=hc1 4 _ rfl;have y4:=hc2 4 _ rfl;have x5:=hc1 5 _ rfl;have y5:=hc2 5 _ rfl;have x6:=hc1 6 _ rfl
   have y6:=hc2 6 _ rfl;have x7:=hc1 7 _ rfl;have y7:=hc2 7 _ rfl;have x8:=hc1 8 _ rfl;have y8:=hc2 8 _ rfl;have x9:=hc1 9 _ rfl;have y9:=hc2 9 _ rfl;have x10:=hc1 10 _ rfl;have y10:=hc2 10 _ rfl;rw [Nat.add_zero] at x0 y0;clear hc1 hc2 xsn xsr ysn ysr hsx HI hx hy;unfold declL declV at *;generalize sameD x y=r at *
   have SW:Hid (∀W:World,Bw wr W→(b1<W.heap.size∧b2<W.heap.size∧W.cell? ⟨b1,o1+i * 11,none⟩=some (.int .i64 x.id)∧W.cell? ⟨b1,o1+i * 11+1,none⟩=some (.int .i64 x.kind)∧W.cell? ⟨b1,o1+i * 11+2,none⟩=some (.bool x.pub)∧W.cell? ⟨b1,o1+i * 11+3,none⟩=some (.slice an x.names.length cn)∧W.cell? ⟨b1,o1+i * 11+4,none⟩=some (.bool x.doubt)∧W.cell? ⟨b1,o1+i * 11+5,none⟩=some (.int .i64 x.body.kind)∧W.cell? ⟨b1,o1+i * 11+6,none⟩=some (.string x.body.name)∧W.cell? ⟨b1,o1+i * 11+7,none⟩=some (.string x.body.more)∧W.cell? ⟨b1,o1+i * 11+8,none⟩=some (.int .i64 x.body.num)∧W.cell? ⟨b1,o1+i * 11+9,none⟩=some (.int .i64 x.body.den)∧W.cell? ⟨b1,o1+i * 11+10,none⟩=some (.slice sa x.body.subs.length cs)∧W.cell? ⟨b2,o2+i * 11,none⟩=some (.int .i64 y.id)∧W.cell? ⟨b2,o2+i * 11+1,none⟩=some (.int .i64 y.kind)∧W.cell? ⟨b2,o2+i * 11+2,none⟩=some (.bool y.pub)∧W.cell? ⟨b2,o2+i * 11+3,none⟩=some (.slice bn y.names.length cm)∧W.cell? ⟨b2,o2+i * 11+4,none⟩=some (.bool y.doubt)∧W.cell? ⟨b2,o2+i * 11+5,none⟩=some (.int .i64 y.body.kind)∧W.cell? ⟨b2,o2+i * 11+6,none⟩=some (.string y.body.name)∧W.cell? ⟨b2,o2+i * 11+7,none⟩=some (.string y.body.more)∧W.cell? ⟨b2,o2+i * 11+8,none⟩=some (.int .i64 y.body.num)∧W.cell? ⟨b2,o2+i * 11+9,none⟩=some (.int .i64 y.body.den)∧W.cell? ⟨b2,o2+i * 11+10,none⟩=some (.slice sb y.body.subs.length ct))):=lH (fun W hW=>⟨Nat.lt_of_lt_of_le hb1 hW.size,Nat.lt_of_lt_of_le hb2 hW.size,(hW.cell (p:=⟨b1,_,none⟩) hb1).trans x0,(hW.cell (p:=⟨b1,_,none⟩) hb1).trans x1,(hW.cell (p:=⟨b1,_,none⟩) hb1).trans x2,(hW.cell (p:=⟨b1,_,none⟩) hb1).trans x3,(hW.cell (p:=⟨b1,_,none⟩) hb1).trans x4,(hW.cell (p:=⟨b1,_,none⟩) hb1).trans x5,(hW.cell (p:=⟨b1,_,none⟩) hb1).trans x6,(hW.cell (p:=⟨b1,_,none⟩) hb1).trans x7,(hW.cell (p:=⟨b1,_,none⟩) hb1).trans x8,(hW.cell (p:=⟨b1,_,none⟩) hb1).trans x9,(hW.cell (p:=⟨b1,_,none⟩) hb1).trans x10,(hW.cell (p:=⟨b2,_,none⟩) hb2).trans y0,(hW.cell (p:=⟨b2,_,none⟩) hb2).trans y1,(hW.cell (p:=⟨b2,_,none⟩) hb2).trans y2,(hW.cell (p:=⟨b2,_,none⟩) hb2).trans y3,(hW.cell (p:=⟨b2,_,none⟩) hb2).trans y4,(hW.cell (p:=⟨b2,_,none⟩) hb2).trans y5,(hW.cell (p:=⟨b2,_,none⟩) hb2).trans y6,(hW.cell (p:=⟨b2,_,none⟩) hb2).trans y7,(hW.cell (p:=⟨b2,_,none⟩) hb2).trans y8,(hW.cell (p:=⟨b2,_,none⟩) hb2).trans y9,(hW.cell (p:=⟨b2,_,none⟩) hb2).trans y10⟩)
   have hdr:Bw wr wr.drew:=(Mod.refl [] wr).drew.below;clear x0 y0 x1 y1 x2 y2 x3 y3 x4 y4 x5 y5 x6 y6 x7 y7 x8 y8 x9 y9 x10 y10;go_upto_region 6 with (fail)
   go_cut [26] from 11 to 26 (fun v wx=>v=.bool (!r)∧Bw wr wx)
   case first=>
    refine wp_region_noPanic (zCp (fun W:World=>b1<W.heap.size∧b2<W.heap.size∧W.cell? ⟨b1,o1+i * 11,none⟩=some (.int .i64 x.id)∧W.cell? ⟨b1,o1+i * 11+1,none⟩=some (.int .i64 x.kind)∧W.cell? ⟨b1,o1+i * 11+2,none⟩=some (.bool x.pub)∧W.cell? ⟨b1,o1+i * 11+3,none⟩=some (.slice an x.names.length cn)∧W.cell? ⟨b1,o1+i * 11+4,none⟩=some (.bool x.doubt)∧W.cell? ⟨b1,o1+i * 11+5,none⟩=some (.int .i64 x.body.kind)∧W.cell? ⟨b1,o1+i * 11+6,none⟩=some (.string x.body.name)∧W.cell? ⟨b1,o1+i * 11+7,none⟩=some (.string x.body.more)∧W.cell? ⟨b1,o1+i * 11+8,none⟩=some (.int .i64 x.body.num)∧W.cell? ⟨b1,o1+i * 11+9,none⟩=some (.int .i64 x.body.den)∧W.cell? ⟨b1,o1+i * 11+10,none⟩=some (.slice sa x.body.subs.length cs)∧W.cell? ⟨b2,o2+i * 11,none⟩=some (.int .i64 y.id)∧W.cell? ⟨b2,o2+i * 11+1,none⟩=some (.int .i64 y.kind)∧W.cell? ⟨b2,o2+i * 11+2,none⟩=some (.bool y.pub)∧W.cell? ⟨b2,o2+i * 11+3,none⟩=some (.slice bn y.names.length cm)∧W.cell? ⟨b2,o2+i * 11+4,none⟩=some (.bool y.doubt)∧W.cell? ⟨b2,o2+i * 11+5,none⟩=some (.int .i64 y.body.kind)∧W.cell? ⟨b2,o2+i * 11+6,none⟩=some (.string y.body.name)∧W.cell? ⟨b2,o2+i * 11+7,none⟩=some (.string y.body.more)∧W.cell? ⟨b2,o2+i * 11+8,none⟩=some (.int .i64 y.body.num)∧W.cell? ⟨b2,o2+i * 11+9,none⟩=some (.int .i64 y.body.den)∧W.cell? ⟨b2,o2+i * 11+10,none⟩=some (.slice sb y.body.subs.length ct)) [true,true,true,true,true,true,true,true,false,true] zBm (by kernel_rfl) (fun _ _ _ _ _ h=>h) (SW.o _ hdr) (fun hHeld=>?_))
    iterate 8 (first|(refine zAo (by rfl) ?_;(try simp only [Act.put,List.setIfInBounds_toArray,List.set_cons_zero,List.set_cons_succ]))|(refine zAw (v:=?_) (by rfl) ?_ ?_;rotate_left;(focus (intro wq hSw;(try dsimp only at hSw);go_simp;(try with_reducible rfl)));(try simp only [Act.put,List.setIfInBounds_toArray,List.set_cons_zero,List.set_cons_succ])))
    clear hHeld;generalize wr.drew=wd at *
    (refine zDb (by rfl) (fun K hK=>?_);go_simp)
    refine (HC.o _ hdr).mono ?_;rintro r w3 ⟨rfl,hb3⟩
    (try go_simp)
    have hb4:=zA hdr hb3;refine hK.out _ _ (SW.o _ hb4) (fun _=>?_);clear hK K;(try simp only [Act.put,List.setIfInBounds_toArray,List.set_cons_zero,List.set_cons_succ])
    (first|(refine zAo (by rfl) ?_;(try simp only [Act.put,List.setIfInBounds_toArray,List.set_cons_zero,List.set_cons_succ]))|(refine zAw (v:=?_) (by rfl) ?_ ?_;rotate_left;(focus (intro wq hSw;(try dsimp only at hSw);go_simp;(try with_reducible rfl)));(try simp only [Act.put,List.setIfInBounds_toArray,List.set_cons_zero,List.set_cons_succ])))
    refine zDg ?_;refine NoPanic.normal ?_
    (try go_wp2)
    go_meet
    case rel=>exact ⟨rfl,hb4⟩
   case rest=>
   obtain ⟨rfl,hb4⟩:=hcut;have hB4:=hb.trans (hb4.mono hb.size);clear SW HC hdr
   cases r with
   | true=>
    rw [Bool.true_and] at HN;simp only [Bool.not_true]
    go_wp2;go_roundw
    case rel=>exact ⟨i+1,by omega,by go_num,HN,hB4⟩
    case measure=>simp [intOf];omega
   | false=>
    rw [Bool.false_and] at HN;simp only [Bool.not_false]
    go_wp2;go_ret;exact ⟨zAb HN.o.symm,hB4⟩
  ·have hd:decide ((i:Int)<(l.length:Int))=false:=decide_eq_false (by omega)
   have HF:Hid (T=true):=by show _=_;rw [HI.o,zW (by omega) (by rw [←HLE.o];omega)]
   go_wp2;go_ret;exact ⟨zAb HF.o.symm,hb⟩
theorem zSe (e f:OEdit) (ao:Option Addr) (co:Nat) (af:Option Addr) (cf:Nat) (bo:Option Addr) (do':Nat) (bf:Option Addr) (df:Nat) (w:World) (he:EditIn w e ao co af cf) (hf:EditIn w f bo do' bf df) (hs:SmE e) :
  Calls Tryz.prog 25 #[editV e ao co af cf,editV f bo do' bf df] w fun r w'=>r=.returned (.bool (sameE e f))∧Bw w w':=by
 have HC1:=lH (fun W (h:Bw w W)=>zEb e.old f.old ao bo co do' W (he.below h).old (hf.below h).old (fun x hx=>⟨(hs.old x hx).1.len,(hs.old x hx).2⟩) hs.olen);have HC2:=lH (fun W (h:Bw w W)=>zEb e.fresh f.fresh af bf cf df W (he.below h).fresh (hf.below h).fresh (fun x hx=>⟨(hs.fresh x hx).1.len,(hs.fresh x hx).2⟩) hs.flen);have HP:Hid (sameE e f=(e.kind==f.kind && (e.pack.toList==f.pack.toList && (e.text.toList==f.text.toList && (sameDs e.old f.old && sameDs e.fresh f.fresh))))):=rfl;clear he hf hs
 obtain ⟨g1,g2,g3⟩:=zBv w 39 #[.int .i64 e.kind,.string e.pack,.string e.text,.slice ao e.old.length co,.slice af e.fresh.length cf] #[.int .i64 f.kind,.string f.pack,.string f.text,.slice bo f.old.length do',.slice bf f.fresh.length df];unfold editV;obtain ⟨k1,k2,k3,e1,e2,e3⟩:∃k1 k2 k3,(e.kind==f.kind)=k1∧(e.pack.toList==f.pack.toList)=k2∧(e.text.toList==f.text.toList)=k3:=⟨_,_,_,rfl,rfl,rfl⟩;rw [e1,e2,e3] at HP;generalize sameDs e.old f.old=k4 at *;generalize sameDs e.fresh f.fresh=k5 at *;generalize sameE e f=T at *
 go_enter Tryz.func25,Tryz.ntmps25
 go_upto_region 1 with (fail)
 generalize (w.alloc (.cells #[.int .i64 e.kind,.string e.pack,.string e.text,.slice ao e.old.length co,.slice af e.fresh.length cf] 39)).alloc (.cells #[.int .i64 f.kind,.string f.pack,.string f.text,.slice bo f.old.length do',.slice bf f.fresh.length df] 39)=W0 at *;have G1:=lH g1;have G2:=lH g2;obtain ⟨p0,p1,p2,p3,pl⟩:=yDd g1;obtain ⟨t0,t1,t2,t3,tl⟩:=yDd g2;clear g1 g2
 cases k1 with
 | false=>
  go_wp2;go_ret;exact ⟨zAb (by rw [HP.o];rfl),g3⟩
 | true=>
 cases k2 with
 | false=>
  go_wp2;go_ret;exact ⟨zAb (by rw [HP.o];rfl),g3⟩
 | true=>
 cases k3 with
 | false=>
  go_wp2;go_ret;exact ⟨zAb (by rw [HP.o];rfl),g3⟩
 | true=>
 go_wp2_with (fail)
 refine (HC1.o _ g3).mono ?_;rintro r w1 ⟨rfl,hb1⟩;have hB1:=zA g3 hb1;clear p0 p1 p2 p3 pl t0 t1 t2 t3 tl;have p4:=(G1.o.below hb1).cell (i:=4) (v:=.slice af e.fresh.length cf) rfl;have t4:=(G2.o.below hb1).cell (i:=4) (v:=.slice bf f.fresh.length df) rfl;have pl:=(G1.o.below hb1).lt;have tl:=(G2.o.below hb1).lt
 cases k4 with
 | false=>
  go_wp2;go_ret;exact ⟨zAb (by rw [HP.o];rfl),hB1⟩
 | true=>
 go_wp2_with (fail)
 refine (HC2.o _ hB1).mono ?_;rintro r w2 ⟨rfl,hb2⟩;have hB2:=zA hB1 hb2;go_wp2;go_ret;exact ⟨zAb (by rw [HP.o];cases k5<;>rfl),hB2⟩
def eAt (l:List OEdit) (i:Nat):OEdit:=(l[i]?).getD noEdit
theorem zIc {w:World} {l:List OEdit} {a:Option Addr} {c:Nat} (hl:Reads w [] (editsT l) (.slice a l.length c)) {i:Nat} {e:OEdit} (hi:l[i]?=some e) :
  ∃(b o:Nat) (ao:Option Addr) (co:Nat) (af:Option Addr) (cf:Nat),a=some ⟨b,o,none⟩∧b<w.heap.size∧w.cell? ⟨b,o+i * 5,none⟩=some (.int .i64 e.kind)∧w.cell? ⟨b,o+i * 5+1,none⟩=some (.string e.pack)∧w.cell? ⟨b,o+i * 5+2,none⟩=some (.string e.text) ∧
   w.cell? ⟨b,o+i * 5+3,none⟩=some (.slice ao e.old.length co)∧w.cell? ⟨b,o+i * 5+4,none⟩=some (.slice af e.fresh.length cf)∧Hid (EditIn w e ao co af cf):=by
 obtain ⟨b,o,ao,co,af,cf,h1,h2,h3,h4,h5,h6,h7,h8,h9,h10,h11,h12,h13⟩:=zUy hl hi;exact ⟨b,o,ao,co,af,cf,h1,h2,h3,h4,h5,h6,h7,⟨h10.out,h13.out,h8,h9,h11,h12⟩⟩
end Go.Proofs.YtfkjfdbjhlmjcaaGreatDoor
