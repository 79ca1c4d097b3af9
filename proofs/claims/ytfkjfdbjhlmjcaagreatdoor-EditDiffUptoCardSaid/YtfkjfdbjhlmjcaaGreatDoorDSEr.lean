/- edit.Invert. -/
import Derived.Test.YtfkjfdbjhlmjcaaGreatDoorDT8
set_option maxRecDepth 100000
set_option maxHeartbeats 16000000
namespace Go.Proofs.YtfkjfdbjhlmjcaaGreatDoor
open Go.RowKit Go.Shelf
attribute [local go_sem] Oper.semAt_some
def opp (k:Int):Int:=if k=1∨k=3∨k=5 then k+1 else if k=2∨k=4∨k=6 then k - 1 else k
def invE (e:OEdit):OEdit:=⟨opp e.kind,e.pack,e.text,e.fresh,e.old⟩
def invL (l:List OEdit):List OEdit:=(l.map invE).reverse
theorem zPw (k:Int) (w:World):Calls Tryz.prog 47 #[.int .i64 k] w fun r w'=>r=.returned (.int .i64 (opp k))∧w'=w:=by
 by_cases e1:k=1
 ·have HH:Hid (opp k=wrap64 (k+1)):=by show _=_;unfold opp wrap64;rw [if_pos (by omega)];omega
  have p1:(k==1)=true:=by rw [e1];rfl
  have p2:(k==2)=false:=by rw [e1];rfl
  have p3:(k==3)=false:=by rw [e1];rfl
  have p4:(k==4)=false:=by rw [e1];rfl
  have p5:(k==5)=false:=by rw [e1];rfl
  have p6:(k==6)=false:=by rw [e1];rfl
  clear e1
  go_enter Tryz.func47,Tryz.ntmps47
  go_wp2;go_ret;exact ⟨zAd HH.o.symm,rfl⟩
 by_cases e3:k=3
 ·have HH:Hid (opp k=wrap64 (k+1)):=by show _=_;unfold opp wrap64;rw [if_pos (by omega)];omega
  have p1:(k==1)=false:=by rw [e3];rfl
  have p2:(k==2)=false:=by rw [e3];rfl
  have p3:(k==3)=true:=by rw [e3];rfl
  have p4:(k==4)=false:=by rw [e3];rfl
  have p5:(k==5)=false:=by rw [e3];rfl
  have p6:(k==6)=false:=by rw [e3];rfl
  clear e1 e3
  go_enter Tryz.func47,Tryz.ntmps47
  go_wp2;go_ret;exact ⟨zAd HH.o.symm,rfl⟩
 by_cases e5:k=5
 ·have HH:Hid (opp k=wrap64 (k+1)):=by show _=_;unfold opp wrap64;rw [if_pos (by omega)];omega
  have p1:(k==1)=false:=by rw [e5];rfl
  have p2:(k==2)=false:=by rw [e5];rfl
  have p3:(k==3)=false:=by rw [e5];rfl
  have p4:(k==4)=false:=by rw [e5];rfl
  have p5:(k==5)=true:=by rw [e5];rfl
  have p6:(k==6)=false:=by rw [e5];rfl
  clear e1 e3 e5
  go_enter Tryz.func47,Tryz.ntmps47
  go_wp2;go_ret;exact ⟨zAd HH.o.symm,rfl⟩
 by_cases e2:k=2
 ·have HH:Hid (opp k=wrap64 (k - 1)):=by show _=_;unfold opp wrap64;rw [if_neg (by omega),if_pos (by omega)];omega
  have p1:(k==1)=false:=by rw [e2];rfl
  have p2:(k==2)=true:=by rw [e2];rfl
  have p3:(k==3)=false:=by rw [e2];rfl
  have p4:(k==4)=false:=by rw [e2];rfl
  have p5:(k==5)=false:=by rw [e2];rfl
  have p6:(k==6)=false:=by rw [e2];rfl
  clear e1 e3 e5 e2
  go_enter Tryz.func47,Tryz.ntmps47
  go_wp2;go_ret;exact ⟨zAd HH.o.symm,rfl⟩
 by_cases e4:k=4
 ·have HH:Hid (opp k=wrap64 (k - 1)):=by show _=_;unfold opp wrap64;rw [if_neg (by omega),if_pos (by omega)];omega
  have p1:(k==1)=false:=by rw [e4];rfl
  have p2:(k==2)=false:=by rw [e4];rfl
  have p3:(k==3)=false:=by rw [e4];rfl
  have p4:(k==4)=true:=by rw [e4];rfl
  have p5:(k==5)=false:=by rw [e4];rfl
  have p6:(k==6)=false:=by rw [e4];rfl
  clear e1 e3 e5 e2 e4
  go_enter Tryz.func47,Tryz.ntmps47
  go_wp2;go_ret;exact ⟨zAd HH.o.symm,rfl⟩
 by_cases e6:k=6
 ·have HH:Hid (opp k=wrap64 (k - 1)):=by show _=_;unfold opp wrap64;rw [if_neg (by omega),if_pos (by omega)];omega
  have p1:(k==1)=false:=by rw [e6];rfl
  have p2:(k==2)=false:=by rw [e6];rfl
  have p3:(k==3)=false:=by rw [e6];rfl
  have p4:(k==4)=false:=by rw [e6];rfl
  have p5:(k==5)=false:=by rw [e6];rfl
  have p6:(k==6)=true:=by rw [e6];rfl
  clear e1 e3 e5 e2 e4 e6
  go_enter Tryz.func47,Tryz.ntmps47
  go_wp2;go_ret;exact ⟨zAd HH.o.symm,rfl⟩
 have HH:Hid (opp k=k):=by show _=_;unfold opp;rw [if_neg (by omega),if_neg (by omega)]
 have p1:(k==1)=false:=beq_eq_false_iff_ne.2 e1;have p2:(k==2)=false:=beq_eq_false_iff_ne.2 e2;have p3:(k==3)=false:=beq_eq_false_iff_ne.2 e3;have p4:(k==4)=false:=beq_eq_false_iff_ne.2 e4;have p5:(k==5)=false:=beq_eq_false_iff_ne.2 e5;have p6:(k==6)=false:=beq_eq_false_iff_ne.2 e6;clear e1 e2 e3 e4 e5 e6
 go_enter Tryz.func47,Tryz.ntmps47
 go_wp2;go_ret;exact ⟨zAd HH.o.symm,rfl⟩
theorem zWw (X:List Value) (m:Nat) (h:m * 5+5≤X.length) (v0 v1 v2 v3 v4:Value) :
  (((((X.set (m * 5) v0).set (m * 5+1) v1).set (m * 5+2) v2).set (m * 5+3) v3).set (m * 5+4) v4).drop (m * 5)=v0::v1::v2::v3::v4::X.drop ((m+1) * 5):=by
 obtain ⟨A,hA,hX⟩:∃A:List Value,A.length=m * 5∧X=A++X.drop (m * 5):=⟨X.take (m * 5),by rw [List.length_take];omega,(List.take_append_drop _ _).symm⟩;have hL:5≤(X.drop (m * 5)).length:=by rw [List.length_drop];omega
 have hD:X.drop ((m+1) * 5)=(X.drop (m * 5)).drop 5:=by rw [List.drop_drop];congr 1;omega
 rw [hD];generalize X.drop (m * 5)=Y at *
 match Y,hL with
 | a0::a1::a2::a3::a4::B,_=>
  rw [hX];rw [List.set_append_right _ _ (by omega),List.set_append_right _ _ (by omega),List.set_append_right _ _ (by omega),List.set_append_right _ _ (by omega),List.set_append_right _ _ (by omega),←hA,List.drop_left];simp
theorem zDg:(Tryz.prog.info? 39).map (fun i=>(i.zero.map (fun z=>z.cells.size),i.size,i.bytes))=some (some 5,5,88):=by kernel_rfl
theorem zTb (l:List OEdit):(invL l).length=l.length:=by rw [invL,List.length_reverse,List.length_map]
theorem zWx {l:List OEdit} {k m:Nat} {e:OEdit} (hm:m+k+1=l.length) (he:l[k]?=some e):(invL l).drop m=invE e::(invL l).drop (m+1):=by
 have h1:(invL l)[m]?=some (invE e):=by
  rw [invL,List.getElem?_reverse (by rw [List.length_map];omega),List.length_map,show l.length - 1 - m=k by omega,List.getElem?_map,he];rfl
 obtain ⟨h2,h3⟩:=List.getElem?_eq_some_iff.1 h1;rw [List.drop_eq_getElem_cons h2,h3]
theorem zVb (l:List OEdit) (a:Option Addr) (c:Nat) (w:World) (hl:Reads w [] (editsT l) (.slice a l.length c)) (hn:l.length≤1000000) :
  Calls Tryz.prog 17 #[.slice a l.length c] w fun r w'=>r=.returned (.slice (some ⟨w.heap.size,0,none⟩) l.length l.length)∧Reads w' [] (editsT (invL l)) (.slice (some ⟨w.heap.size,0,none⟩) l.length l.length)∧Bw w w':=by
 have HL:=lH hl;obtain ⟨i0,z,hi,hz0,hzs,hz1,hz2⟩:=zAn zDg;have hmk:=run_make (P:=Tryz.prog) w 23 39 i0 z Tryz.underlying23 hi hz0 .i64 .i64 (l.length:Int) (l.length:Int) (by omega) (Int.le_refl _) (by rw [hz2];omega) (by omega);simp only [Int.toNat_natCast,hz1] at hmk
 have HM0:=lH (CBox.new w 39 (madeCells z.cells (l.length * 5)));have hX0:(madeCells z.cells (l.length * 5)).toList.length=l.length * 5:=by rw [Array.length_toList,size_madeCells]
 have hA:=zAb w (.cells (madeCells z.cells (l.length * 5)) 39);generalize World.alloc w _=w1 at *;generalize madeCells z.cells (l.length * 5)=X0 at *;have HX0:=lH hX0;have HA:=lH hA;clear hl hX0 hA hz0 hzs hz1 hz2 hi
 go_enter Tryz.func17,Tryz.ntmps17
 go_wp2;generalize hM:w.heap.size=M at *;have HMM:=lH hM;replace HA:Hid (RowKit.Below M w w1):=by first|exact HA|(show RowKit.Below M w w1;rw [←hM];exact HA.o)
 go_loopw [11] (fun iv wr=>∃(k:Nat) (X:List Value),k≤l.length∧iv=.int .i64 k∧Hid (X.length=l.length * 5)∧Hid (CBox wr M 39 X.toArray)∧Hid (ReadsL w [] (((invL l).drop (l.length - k)).flatMap editT) (X.drop ((l.length - k) * 5)))∧Hid (Below M w wr)) (fun iv _=>l.length - (intOf iv).toNat)
 case atStart=>exact ⟨0,X0.toList,Nat.zero_le _,rfl,HX0.o,HM0,by
  show ReadsL _ _ _ _
  rw [Nat.sub_zero,List.drop_eq_nil_of_le (by rw [zTb];omega),List.drop_eq_nil_of_le (by rw [HX0.o];omega),List.flatMap_nil]
  exact ReadsL.nil _ _,HA⟩
 case round=>
  obtain ⟨k,X,hkl,rfl,HXL,HM,HR,HB⟩:=hrel
  by_cases hi:k<l.length
  ·have hd:decide ((k:Int)<(l.length:Int))=true:=decide_eq_true (by omega)
   have hir:(k:Int)<(l.length:Int):=by omega
   obtain ⟨m,hm⟩:∃m:Nat,m+k+1=l.length:=⟨l.length - 1 - k,by omega⟩;obtain ⟨e,he⟩:∃e,l[k]?=some e:=⟨_,List.getElem?_eq_getElem hi⟩;have HID:=lH (zWx hm he);obtain ⟨b,o,ao,co,an,cn,rfl,hbl,x0',x1',x2',x3',x4',ho1,ho2,hor,hn1,hn2,hnr⟩:=zIj HL.o he;have hbw:b<w.heap.size:=hbl;have hB:=HB.o;rw [←hM] at hB;have x0:=(hB.cell (p:=⟨b,_,none⟩) hbl).trans x0';have x1:=(hB.cell (p:=⟨b,_,none⟩) hbl).trans x1';have x2:=(hB.cell (p:=⟨b,_,none⟩) hbl).trans x2'
   have x3:=(hB.cell (p:=⟨b,_,none⟩) hbl).trans x3';have x4:=(hB.cell (p:=⟨b,_,none⟩) hbl).trans x4';have hbr:b<wr.heap.size:=Nat.lt_of_lt_of_le hbl hB.size;have HOR:=lH hor.out;have HNR:=lH hnr.out;have HBX:=lH (CBox.new wr 39 #[.int .i64 e.kind,.string e.pack,.string e.text,.slice ao e.old.length co,.slice an e.fresh.length cn]);have HMA:=lH (HM.o.alloc (.cells #[.int .i64 e.kind,.string e.pack,.string e.text,.slice ao e.old.length co,.slice an e.fresh.length cn] 39))
   have HBA:=lH (HB.o.trans ((zAb wr (.cells #[.int .i64 e.kind,.string e.pack,.string e.text,.slice ao e.old.length co,.slice an e.fresh.length cn] 39)).mono (by rw [←hM];exact hB.size)));have hMlt:=HM.o.lt;have HMK:=lH hm;clear x0' x1' x2' x3' x4' hor hnr hB he hm HM HB hM;go_upto_region 5 with (fail)
   generalize hWA:wr.alloc (.cells #[.int .i64 e.kind,.string e.pack,.string e.text,.slice ao e.old.length co,.slice an e.fresh.length cn] 39)=wa at *;generalize hBB:wr.heap.size=B at *;have HNE:Hid (M<B):=by show _<_;omega
   clear hWA hBB x0 x1 x2 x3 x4 hbr hMlt
   go_cut [] from 16 to 34 (fun wx=>CBox wx B 39 #[.int .i64 (opp e.kind),.string e.pack,.string e.text,.slice an e.fresh.length cn,.slice ao e.old.length co]∧Mod [B] wa wx)
   case first=>
    have y0:=HBX.o.cell (i:=0) (v:=.int .i64 e.kind) rfl;have y3:=HBX.o.cell (i:=3) (v:=.slice ao e.old.length co) rfl;have y4:=HBX.o.cell (i:=4) (v:=.slice an e.fresh.length cn) rfl;have f0:=HBX.o.frozen 0;have f3:=HBX.o.frozen 3;have f4:=HBX.o.frozen 4;have yl:=HBX.o.lt;have HG:=lH (HBX.o.below (Mod.refl [] wa).drew.below);have HMD:=lH (Mod.refl [B] wa)
    go_region_with (go_at_call 47;refine (zPw _ _).mono ?_;rintro r w' ⟨rfl,rfl⟩)
    all_goals (go_wp2_with (fail))
    all_goals go_meet
    all_goals exact ⟨((HG.o.set 0 _).set 3 _).set 4 _,(((HMD.o.setCell (p:=⟨B,0,none⟩) (by simp) _).setCell (p:=⟨B,3,none⟩) (by simp) _).setCell (p:=⟨B,4,none⟩) (by simp) _).drew⟩
   case rest=>
   obtain ⟨hbx,hmod⟩:=hcut;generalize wc=w5 at *;have HM5:=lH (HMA.o.mod hmod (by have:=HNE.o;simp;omega));have HB5:Hid (Below M w w5):=HBA.o.trans (hmod.upto (by have:=HMA.o.lt;omega) (by have:=HNE.o;intro q hq;simp at hq;omega));clear HBX HMA HBA hmod;have hXl:m * 5+5≤X.length:=by have h1:=HXL.o;have h2:=HMK.o;omega
   have e0:=hbx.cell (i:=0) (v:=.int .i64 (opp e.kind)) rfl;have e1:=hbx.cell (i:=1) (v:=.string e.pack) rfl;have e2:=hbx.cell (i:=2) (v:=.string e.text) rfl;have e3:=hbx.cell (i:=3) (v:=.slice an e.fresh.length cn) rfl;have e4:=hbx.cell (i:=4) (v:=.slice ao e.old.length co) rfl;have el:=hbx.lt;have mf0:=HM5.o.frozen (m * 5+0);have mc0:=HM5.o.cell (i:=m * 5+0) (v:=X[m * 5+0]'(by omega)) (by rw [List.getElem?_toArray];exact List.getElem?_eq_getElem _);generalize X[m * 5+0]'_=xx0 at *;have mf1:=HM5.o.frozen (m * 5+1)
   have mc1:=HM5.o.cell (i:=m * 5+1) (v:=X[m * 5+1]'(by omega)) (by rw [List.getElem?_toArray];exact List.getElem?_eq_getElem _);generalize X[m * 5+1]'_=xx1 at *;have mf2:=HM5.o.frozen (m * 5+2);have mc2:=HM5.o.cell (i:=m * 5+2) (v:=X[m * 5+2]'(by omega)) (by rw [List.getElem?_toArray];exact List.getElem?_eq_getElem _);generalize X[m * 5+2]'_=xx2 at *;have mf3:=HM5.o.frozen (m * 5+3);have mc3:=HM5.o.cell (i:=m * 5+3) (v:=X[m * 5+3]'(by omega)) (by rw [List.getElem?_toArray];exact List.getElem?_eq_getElem _)
   generalize X[m * 5+3]'_=xx3 at *;have mf4:=HM5.o.frozen (m * 5+4);have mc4:=HM5.o.cell (i:=m * 5+4) (v:=X[m * 5+4]'(by omega)) (by rw [List.getElem?_toArray];exact List.getElem?_eq_getElem _);generalize X[m * 5+4]'_=xx4 at *;have ml:=HM5.o.lt;rw [Nat.add_zero] at mf0 mc0;have HME:Hid (m=l.length - 1 - k):=by show _=_;have:=HMK.o;omega
   rw [HME.o] at mf0 mf1 mf2 mf3 mf4 mc0 mc1 mc2 mc3 mc4;have HX5:=lH hXl;clear hbx hXl;go_upto_region 7 with (fail)
   rw [←HME.o];generalize hW6:(((((w5.setCell ⟨M,m * 5,none⟩ (.int .i64 (opp e.kind))).setCell ⟨M,m * 5+1,none⟩ (.string e.pack)).setCell ⟨M,m * 5+2,none⟩ (.string e.text)).setCell ⟨M,m * 5+3,none⟩ (.slice an e.fresh.length cn)).setCell ⟨M,m * 5+4,none⟩ (.slice ao e.old.length co))=w6 at *
   have HC6:Hid (CBox w6 M 39 (((((X.set (m * 5) (.int .i64 (opp e.kind))).set (m * 5+1) (.string e.pack)).set (m * 5+2) (.string e.text)).set (m * 5+3) (.slice an e.fresh.length cn)).set (m * 5+4) (.slice ao e.old.length co)).toArray):=by
    show CBox _ _ _ _
    rw [←hW6];have q:=((((HM5.o.set (m * 5) (.int .i64 (opp e.kind))).set (m * 5+1) (.string e.pack)).set (m * 5+2) (.string e.text)).set (m * 5+3) (.slice an e.fresh.length cn)).set (m * 5+4) (.slice ao e.old.length co)
    simpa only [List.setIfInBounds_toArray] using q
   have HB6:Hid (Below M w w6):=by
    show Below _ _ _
    rw [←hW6];refine HB5.o.trans (Mod.upto (X:=[M]) (((((Mod.refl [M] w5).setCell (p:=⟨M,m * 5,none⟩) (by simp) _).setCell (p:=⟨M,m * 5+1,none⟩) (by simp) _).setCell (p:=⟨M,m * 5+2,none⟩) (by simp) _).setCell (p:=⟨M,m * 5+3,none⟩) (by simp) _ |>.setCell (p:=⟨M,m * 5+4,none⟩) (by simp) _) (by omega) (by intro q hq;simp at hq;omega))
   have hkm:l.length - k=m+1:=by have:=HMK.o;omega
   have hkm2:l.length - (k+1)=m:=by have:=HMK.o;omega
   rw [hkm] at HR
   have HR6:Hid (ReadsL w [] (((invL l).drop (l.length - (k+1))).flatMap editT) ((((((X.set (m * 5) (.int .i64 (opp e.kind))).set (m * 5+1) (.string e.pack)).set (m * 5+2) (.string e.text)).set (m * 5+3) (.slice an e.fresh.length cn)).set (m * 5+4) (.slice ao e.old.length co)).drop ((l.length - (k+1)) * 5))):=by
    show ReadsL _ _ _ _
    rw [hkm2,HID.o,zWw X m HX5.o,List.flatMap_cons];refine ReadsL.append (ds:=editT (invE e)) (xs:=[.int .i64 (opp e.kind),.string e.pack,.string e.text,.slice an e.fresh.length cn,.slice ao e.old.length co]) HR.o ?_;exact ReadsL.cons (Reads.leaf' _ _ _) (ReadsL.cons (Reads.leaf' _ _ _) (ReadsL.cons (Reads.leaf' _ _ _) (ReadsL.cons HNR.o (ReadsL.cons HOR.o (ReadsL.nil _ _)))))
   clear hW6 mf0 mf1 mf2 mf3 mf4 mc0 mc1 mc2 mc3 mc4 e0 e1 e2 e3 e4 el ml hkm hkm2;go_wp2;go_roundw
   case rel=>exact ⟨k+1,_,by omega,by go_num,by show _=_;simp only [List.length_set];exact HXL.o,HC6,HR6,HB6⟩
   case measure=>simp [intOf];omega
  ·have hd:decide ((k:Int)<(l.length:Int))=false:=decide_eq_false (by omega)
   obtain rfl:k=l.length:=by omega
   have HF:Hid (Reads wr [] (editsT (invL l)) (.slice (some ⟨M,0,none⟩) l.length l.length)):=by
    show Reads _ _ _ _
    have h1:=HR.o;rw [Nat.sub_self,Nat.zero_mul,List.drop_zero,List.drop_zero] at h1;have h2:=zTb l;rw [←h2];have hlt:=HM.o.lt;have hlw:M≤w1.heap.size:=by have q:=HA.o.size;have:=HMM.o;omega
    refine Reads.ofRow (l:=invL l) (f:=editT) (xs:=X) ⟨by rw [h2];exact HXL.o,some ⟨M,0,none⟩,(invL l).length,rfl,Nat.le_refl _,by unfold maxLen;omega,fun _=>⟨M,0,rfl,hlt,fun j u hj=>?_⟩⟩ (fun _ b _=>by simp) ?_
    ·rw [Nat.zero_add];exact HM.o.cell (by rw [List.getElem?_toArray];exact hj)
    ·refine h1.below ?_
     have q:=HB.o;rw [←HMM.o] at q;exact q
   go_wp2;go_ret;have hM:=HMM.o;subst hM;exact ⟨rfl,HF.o,HB.o⟩
end Go.Proofs.YtfkjfdbjhlmjcaaGreatDoor
namespace Go.Proofs.YtfkjfdbjhlmjcaaGreatDoor
open Go.RowKit
theorem zJf:∀{l:List Int},firstNZ l=0↔∀x∈l,x=0
 | []=>by simp [firstNZ]
 | a::r=>by
  rw [firstNZ];split
  ·rename_i h;rw [zJf];simp [h]
  ·rename_i h;simp [h]
theorem zHd {f:Nat→Int} {n:Nat}:nzFrom f n 0=0↔∀k,k<n→f k=0:=by
 unfold nzFrom;rw [List.drop_zero,zJf];simp
theorem zEm {l:List OMod}:testErr l=0↔∀m∈l,modErr m=0:=by
 unfold testErr;rw [zHd]
 constructor
 ·intro h m hm
  obtain ⟨k,hk,rfl⟩:=List.mem_iff_getElem.1 hm;have:=h k hk;rwa [zEl (List.getElem?_eq_getElem hk)] at this
 ·intro h k hk
  rw [zEl (List.getElem?_eq_getElem hk)];exact h _ (List.getElem_mem hk)
theorem zCe {e:OEdit}:editErr e=0↔(1≤e.kind∧e.kind≤9)∧fitsB e=true∧∀m∈testsOf e,modErr m=0:=by
 unfold editErr;split
 ·rename_i h
  split
  ·rename_i h2;rw [zEm];simp [h,h2]
  ·rename_i h2;simp [h2]
 ·rename_i h;simp;intro h1 h2;exact absurd ⟨h1,h2⟩ h
theorem zWy {x:Ex}:∀(_:SmX 9223372036854775807 x) (_:anyX longP x=false),SmX 40000 x:=by
 refine Ex.ind (P:=fun x=>∀(_:SmX 9223372036854775807 x) (_:anyX longP x=false),SmX 40000 x) (fun x ih h hl=>?_) x;have hs:=h.subs
 cases x with
 | mk k n m i d s=>
  rw [zIl] at hl;simp only [Bool.or_eq_false_iff] at hl
  obtain ⟨h1,h2⟩:=hl;unfold longP at h1;simp only [Bool.or_eq_false_iff,decide_eq_false_iff_not] at h1
  refine .mk (by have:=h1.1;simp only [Ex.name] at this;omega) (by have:=h1.2;simp only [Ex.more] at this;omega) h.kind h.num h.den (fun y hy=>ih y hy (hs y hy) ?_);rw [List.any_eq_false] at h2
  simpa using h2 y hy
structure BigE (e:OEdit):Prop where
 pack:e.pack.size≤4000000
 text:e.text.size≤4000000
 old:∀d∈e.old,BigD d
 fresh:∀d∈e.fresh,BigD d
theorem yCc {d:ODecl} (h:BigD d) (g:greatD d=false):SmD d∧nodesN d.body≤1000000:=by
 unfold greatD greatX at g;simp only [Bool.or_eq_false_iff,decide_eq_false_iff_not,List.any_eq_false,decide_eq_true_eq] at g
 obtain ⟨⟨g1,g2,g3⟩,g4⟩:=g;exact ⟨⟨fun s hs=>by have:=g4 s hs;omega,by omega,zWy h.body g3,by omega⟩,by omega⟩
theorem zWz {l:List ODecl} (h:∀d∈l,BigD d) (g:greatDs l=false):(∀d∈l,SmD d∧nodesN d.body≤1000000)∧l.length≤1000000:=by
 unfold greatDs at g;split at g
 ·cases g
 ·rename_i h8
  rw [List.any_eq_false] at g;exact ⟨fun d hd=>yCc (h d hd) (by simpa using g d hd),by omega⟩
theorem yDx {e:OEdit} (h:BigE e) (g:greatE e=false):SmE e:=by
 unfold greatE at g;simp only [Bool.or_eq_false_iff,decide_eq_false_iff_not] at g
 obtain ⟨⟨⟨g1,g2⟩,g3⟩,g4⟩:=g;obtain ⟨o1,o2⟩:=zWz h.old g3;obtain ⟨f1,f2⟩:=zWz h.fresh g4;exact ⟨by omega,by omega,o1,f1,o2,f2⟩
end Go.Proofs.YtfkjfdbjhlmjcaaGreatDoor
