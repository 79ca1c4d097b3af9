/- The reference's id, Independent of chapter 35. -/
import Derived.Test.YtfkjfdbjhlmjcaaGreatDoorDSEr
set_option maxRecDepth 100000
set_option maxHeartbeats 16000000
namespace Go.Proofs.YtfkjfdbjhlmjcaaGreatDoor
open Go.RowKit Go.Shelf
attribute [local go_sem] Oper.semAt_some
def sameEs:List OEdit→List OEdit→Bool
 | [],[]=>true
 | a::r,b::s=>sameE a b && sameEs r s
 | _,_=>false
theorem zGl:∀{l m:List OEdit},sameEs l m=true↔l=m
 | [],[]=>by simp [sameEs]
 | [],b::s=>by simp [sameEs]
 | a::r,[]=>by simp [sameEs]
 | a::r,b::s=>by simp [sameEs,zWv,zGl]
theorem zVd {l m:List OEdit} (h:l.length≠m.length):sameEs l m=false:=by
 cases e:sameEs l m with
 | false=>rfl
 | true=>exact absurd (congrArg List.length (zGl.1 e)) h
theorem zXr {l m:List OEdit} {i:Nat} {x y:OEdit} (hx:l[i]?=some x) (hy:m[i]?=some y):sameEs (l.drop i) (m.drop i)=(sameE x y && sameEs (l.drop (i+1)) (m.drop (i+1))):=by
 obtain ⟨h1,e1⟩:=List.getElem?_eq_some_iff.1 hx;obtain ⟨h2,e2⟩:=List.getElem?_eq_some_iff.1 hy;rw [List.drop_eq_getElem_cons h1,List.drop_eq_getElem_cons h2,sameEs,e1,e2]
theorem zVe {l m:List OEdit} {i:Nat} (hl:l.length≤i) (hm:m.length≤i):sameEs (l.drop i) (m.drop i)=true:=by
 rw [List.drop_eq_nil_of_le hl,List.drop_eq_nil_of_le hm,sameEs]
theorem zGy (l m:List OEdit) (a b:Option Addr) (c d:Nat) (w:World) (hl:Reads w [] (editsT l) (.slice a l.length c)) (hm:Reads w [] (editsT m) (.slice b m.length d)) (hs:∀x∈l,SmE x) (hn:l.length≤1000000) :
  Calls Tryz.prog 16 #[.slice a l.length c,.slice b m.length d] w fun e w'=>e=.returned (.bool (sameEs l m))∧Bw w w':=by
 have HL:=lH hl;have HM:=lH hm;have HS:=lH hs;have HE:Hid (sameEs l m=sameEs (l.drop 0) (m.drop 0)):=rfl;have HLEN:=lH (zVd (l:=l) (m:=m));clear hl hm hs;generalize sameEs l m=T at *
 by_cases hlen:l.length=m.length
 rotate_left
 ·have q1:((l.length:Int) != (m.length:Int))=true:=bne_iff_ne.2 (by omega)
  have HF:=lH (HLEN.o hlen);clear hlen HLEN
  go_enter Tryz.func16,Tryz.ntmps16
  go_wp2;go_ret;exact ⟨zAc HF.o.symm,zAq _⟩
 have q1:((l.length:Int) != (m.length:Int))=false:=by rw [hlen];simp
 have HLE:=lH hlen;clear hlen HLEN
 go_enter Tryz.func16,Tryz.ntmps16
 go_wp2
 go_loopw [5] (fun iv wr=>∃i:Nat,i≤l.length∧iv=.int .i64 i∧Hid (T=sameEs (l.drop i) (m.drop i))∧Bw w wr) (fun iv _=>l.length - (intOf iv).toNat)
 case atStart=>exact ⟨0,Nat.zero_le _,rfl,HE,zAq _⟩
 case round=>
  obtain ⟨i,hil,rfl,HI,hb⟩:=hrel
  by_cases hi:i<l.length
  ·have hd:decide ((i:Int)<(l.length:Int))=true:=decide_eq_true (by omega)
   have hi2:i<m.length:=by rw [←HLE.o];exact hi
   have hir:(i:Int)<(l.length:Int):=by omega
   have hir2:(i:Int)<(m.length:Int):=by omega
   obtain ⟨x,hx⟩:∃x,l[i]?=some x:=⟨_,List.getElem?_eq_getElem hi⟩;obtain ⟨y,hy⟩:∃y,m[i]?=some y:=⟨_,List.getElem?_eq_getElem hi2⟩;obtain ⟨b1,o1,xo,xc,xf,xd,rfl,hb1,x0,x1,x2,x3,x4,hxi⟩:=zDw (HL.o.below hb) hx;obtain ⟨b2,o2,yo,yc,yf,yd,rfl,hb2,y0,y1,y2,y3,y4,hyi⟩:=zDw (HM.o.below hb) hy;have hsx:=HS.o x (List.mem_of_getElem? hx);have HC:=lH (fun w' (h':Bw wr w')=>zRw x y xo xc xf xd yo yc yf yd w' (hxi.out.below h') (hyi.out.below h') hsx);have HN:=lH (HI.o.trans (zXr hx hy))
   clear hxi hyi hsx HI hx hy;unfold editV at *;generalize sameE x y=r at *
   have SW:Hid (∀W:World,Bw wr W→(b1<W.heap.size∧b2<W.heap.size∧W.cell? ⟨b1,o1+i * 5,none⟩=some (.int .i64 x.kind)∧W.cell? ⟨b1,o1+i * 5+1,none⟩=some (.string x.pack)∧W.cell? ⟨b1,o1+i * 5+2,none⟩=some (.string x.text)∧W.cell? ⟨b1,o1+i * 5+3,none⟩=some (.slice xo x.old.length xc)∧W.cell? ⟨b1,o1+i * 5+4,none⟩=some (.slice xf x.fresh.length xd)∧W.cell? ⟨b2,o2+i * 5,none⟩=some (.int .i64 y.kind)∧W.cell? ⟨b2,o2+i * 5+1,none⟩=some (.string y.pack)∧W.cell? ⟨b2,o2+i * 5+2,none⟩=some (.string y.text)∧W.cell? ⟨b2,o2+i * 5+3,none⟩=some (.slice yo y.old.length yc)∧W.cell? ⟨b2,o2+i * 5+4,none⟩=some (.slice yf y.fresh.length yd))):=lH (fun W hW=>⟨Nat.lt_of_lt_of_le hb1 hW.size,Nat.lt_of_lt_of_le hb2 hW.size,(hW.cell (p:=⟨b1,_,none⟩) hb1).trans x0,(hW.cell (p:=⟨b1,_,none⟩) hb1).trans x1,(hW.cell (p:=⟨b1,_,none⟩) hb1).trans x2,(hW.cell (p:=⟨b1,_,none⟩) hb1).trans x3,(hW.cell (p:=⟨b1,_,none⟩) hb1).trans x4,(hW.cell (p:=⟨b2,_,none⟩) hb2).trans y0,(hW.cell (p:=⟨b2,_,none⟩) hb2).trans y1,(hW.cell (p:=⟨b2,_,none⟩) hb2).trans y2,(hW.cell (p:=⟨b2,_,none⟩) hb2).trans y3,(hW.cell (p:=⟨b2,_,none⟩) hb2).trans y4⟩)
   have hdr:Bw wr wr.drew:=(Mod.refl [] wr).drew.below;clear x0 x1 x2 x3 x4 y0 y1 y2 y3 y4;go_upto_region 6 with (fail)
   go_cut [26] from 11 to 26 (fun v wx=>v=.bool (!r)∧Bw wr wx)
   case first=>
    refine wp_region_noPanic (zC (fun W:World=>b1<W.heap.size∧b2<W.heap.size∧W.cell? ⟨b1,o1+i * 5,none⟩=some (.int .i64 x.kind)∧W.cell? ⟨b1,o1+i * 5+1,none⟩=some (.string x.pack)∧W.cell? ⟨b1,o1+i * 5+2,none⟩=some (.string x.text)∧W.cell? ⟨b1,o1+i * 5+3,none⟩=some (.slice xo x.old.length xc)∧W.cell? ⟨b1,o1+i * 5+4,none⟩=some (.slice xf x.fresh.length xd)∧W.cell? ⟨b2,o2+i * 5,none⟩=some (.int .i64 y.kind)∧W.cell? ⟨b2,o2+i * 5+1,none⟩=some (.string y.pack)∧W.cell? ⟨b2,o2+i * 5+2,none⟩=some (.string y.text)∧W.cell? ⟨b2,o2+i * 5+3,none⟩=some (.slice yo y.old.length yc)∧W.cell? ⟨b2,o2+i * 5+4,none⟩=some (.slice yf y.fresh.length yd)) [true,true,true,true,true,true,true,true,false,true] zAp (by kernel_rfl) (fun _ _ _ _ _ h=>h) (SW.o _ hdr) (fun hHeld=>?_))
    iterate 8 (first|(refine zAo (by rfl) ?_;(try simp only [Act.put,List.setIfInBounds_toArray,List.set_cons_zero,List.set_cons_succ]))|(refine zAs (v:=?_) (by rfl) ?_ ?_;rotate_left;(focus (intro wq hSw;(try dsimp only at hSw);go_simp;(try with_reducible rfl)));(try simp only [Act.put,List.setIfInBounds_toArray,List.set_cons_zero,List.set_cons_succ])))
    clear hHeld;generalize wr.drew=wd at *
    (refine zCz (by rfl) (fun K hK=>?_);go_simp)
    refine (HC.o _ hdr).mono ?_;rintro r w3 ⟨rfl,hb3⟩
    (try go_simp)
    have hb4:=zA hdr hb3;refine hK.out _ _ (SW.o _ hb4) (fun _=>?_);clear hK K;(try simp only [Act.put,List.setIfInBounds_toArray,List.set_cons_zero,List.set_cons_succ])
    (first|(refine zAo (by rfl) ?_;(try simp only [Act.put,List.setIfInBounds_toArray,List.set_cons_zero,List.set_cons_succ]))|(refine zAs (v:=?_) (by rfl) ?_ ?_;rotate_left;(focus (intro wq hSw;(try dsimp only at hSw);go_simp;(try with_reducible rfl)));(try simp only [Act.put,List.setIfInBounds_toArray,List.set_cons_zero,List.set_cons_succ])))
    refine zCm ?_;refine NoPanic.normal ?_
    (try go_wp2)
    go_meet
    case rel=>exact ⟨rfl,hb4⟩
   case rest=>
   obtain ⟨rfl,hb4⟩:=hcut;have hB4:=hb.trans (hb4.mono hb.size);clear SW HC hdr
   cases r with
   | true=>
    rw [Bool.true_and] at HN;simp only [Bool.not_true]
    go_wp2;go_roundw
    case rel=>exact ⟨i+1,by omega,by go_num,HN,hB4⟩
    case measure=>simp [intOf];omega
   | false=>
    rw [Bool.false_and] at HN;simp only [Bool.not_false]
    go_wp2;go_ret;exact ⟨zAc HN.o.symm,hB4⟩
  ·have hd:decide ((i:Int)<(l.length:Int))=false:=decide_eq_false (by omega)
   have HF:Hid (T=true):=by show _=_;rw [HI.o,zVe (by omega) (by rw [←HLE.o];omega)]
   go_wp2;go_ret;exact ⟨zAc HF.o.symm,hb⟩
def swapAt (l:List OEdit) (k:Nat):List OEdit:=(l.set k (eAt l (k+1))).set (k+1) (eAt l k)
def moveUp:Nat→List OEdit→Nat→Option (List OEdit)
 | 0,l,_=>some l
 | d+1,l,f=>if swapB (eAt l f) (eAt l (f+1)) then moveUp d (swapAt l f) (f+1) else none
def moveDown:Nat→List OEdit→Nat→Option (List OEdit)
 | 0,l,_=>some l
 | d+1,l,f=>if swapB (eAt l (f - 1)) (eAt l f) then moveDown d (swapAt l (f - 1)) (f - 1) else none
def mv (l:List OEdit) (f t:Nat):Option (List OEdit):=if f≤t then moveUp (t - f) l f else moveDown (f - t) l f
section
variable {w:World} {B:Nat} {e:TypeId} {n cap sz:Nat} {xs:List Value}
theorem zCq {g:Nat} (h:w.ownsRow B e sz (.slice (some ⟨g,0,none⟩) n cap) n xs) (_hn:0<n) (i:Nat) (v:Value):(w.setCell ⟨g,i,none⟩ v).ownsRow B e sz (.slice (some ⟨g,0,none⟩) n cap) n (xs.set i v):=by
  obtain ⟨hl,h2⟩:=h
  rcases h2 with ⟨hv,h0⟩|⟨g',cap',cur,hv,hg,hh,hn',hc,hs,ht⟩
  · cases hv
  · injection hv with e1 e2 e3
    injection e1 with e1
    injection e1 with e1
    subst e1 e3
    refine ⟨by rw [List.length_set];exact hl,.inr ⟨g,cap,cur.setIfInBounds i v,rfl,hg,CBox.set (B:=g) hh i v,hn',hc,by rw [Array.size_setIfInBounds];exact hs,?_⟩⟩
    rw [Array.toList_setIfInBounds,List.take_set,ht]
end
theorem zQc (e:OEdit):(editT e).length=5:=rfl
theorem zEd {w:World} {X:List Nat}:∀{l:List OEdit} {xs:List Value},ReadsL w X (l.flatMap editT) xs→∀u∈xs,u.oneCell'=true:=by
 intro l
 induction l with
 | nil=>intro xs h;rw [List.flatMap_nil,ReadsL] at h;subst h;intro u hu;cases hu
 | cons y r ih=>
  intro xs h u hu;rw [List.flatMap_cons] at h;have h1:=h.take 5;have h2:=h.drop 5;rw [List.take_left' (zQc y)] at h1;rw [List.drop_left' (zQc y)] at h2;rw [←List.take_append_drop 5 xs,List.mem_append] at hu
  rcases hu with hu|hu
  ·obtain ⟨ao,co,af,cf,e,_⟩:=zGa h1
   rw [e] at hu;simp only [List.mem_cons,List.not_mem_nil,or_false] at hu
   rcases hu with rfl|rfl|rfl|rfl|rfl<;>rfl
  ·exact ih h2 u hu
theorem zSb (ad:Addr) (n c:Nat) (w:World):(binOp .eql 23 (.slice (some ad) n c) (.slice none 0 0)).run Tryz.prog w=.ok (.bool false) w:=Lib.run_eql_slice_nil w _ _ (some ad) n c 0 0 Tryz.underlying23
attribute [local go_sem] zSb
end Go.Proofs.YtfkjfdbjhlmjcaaGreatDoor
