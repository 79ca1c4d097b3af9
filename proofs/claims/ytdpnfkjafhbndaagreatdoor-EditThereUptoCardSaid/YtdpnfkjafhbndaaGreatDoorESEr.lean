/- edit.Invert. Plain: independence and inverse edits. -/
import Derived.Test.YtdpnfkjafhbndaaGreatDoorESEn
import Derived.Deep.RegionWith
import Derived.Test.YtdpnfkjafhbndaaGreatDoorET8
namespace Go.Proofs.YtdpnfkjafhbndaaGreatDoor
open Go.RowKit Go.Shelf
attribute [local go_sem] Oper.semAt_some
def opp (k:Int):Int:=if k = 1∨k = 3∨k = 5 then k + 1 else if k = 2∨k = 4∨k = 6 then k - 1 else k
def invE (e:OEdit):OEdit:=⟨opp e.kind,e.pack,e.text,e.fresh,e.old⟩
def invL (l:List OEdit):List OEdit:=(l.map invE).reverse
set_option maxRecDepth 100000 in
theorem opposite_any (k:Int) (w:World):Calls Tryz.prog 78 #[.int .i64 k] w fun r w' => r = .returned (.int .i64 (opp k))∧w' = w:=by
 by_cases e1:k = 1
 ·have HH:Hid (opp k = wrap64 (k + 1)):=by show _ = _;unfold opp wrap64;rw [if_pos (by omega)];omega
  have p1:(k == 1) = true:=by rw [e1];rfl
  have p2:(k == 2) = false:=by rw [e1];rfl
  have p3:(k == 3) = false:=by rw [e1];rfl
  have p4:(k == 4) = false:=by rw [e1];rfl
  have p5:(k == 5) = false:=by rw [e1];rfl
  have p6:(k == 6) = false:=by rw [e1];rfl
  clear e1
  go_enter Tryz.func78,Tryz.ntmps78
  go_wp2;go_ret;exact ⟨ret_int HH.out.symm,rfl⟩
 by_cases e3:k = 3
 ·have HH:Hid (opp k = wrap64 (k + 1)):=by show _ = _;unfold opp wrap64;rw [if_pos (by omega)];omega
  have p1:(k == 1) = false:=by rw [e3];rfl
  have p2:(k == 2) = false:=by rw [e3];rfl
  have p3:(k == 3) = true:=by rw [e3];rfl
  have p4:(k == 4) = false:=by rw [e3];rfl
  have p5:(k == 5) = false:=by rw [e3];rfl
  have p6:(k == 6) = false:=by rw [e3];rfl
  clear e1 e3
  go_enter Tryz.func78,Tryz.ntmps78
  go_wp2;go_ret;exact ⟨ret_int HH.out.symm,rfl⟩
 by_cases e5:k = 5
 ·have HH:Hid (opp k = wrap64 (k + 1)):=by show _ = _;unfold opp wrap64;rw [if_pos (by omega)];omega
  have p1:(k == 1) = false:=by rw [e5];rfl
  have p2:(k == 2) = false:=by rw [e5];rfl
  have p3:(k == 3) = false:=by rw [e5];rfl
  have p4:(k == 4) = false:=by rw [e5];rfl
  have p5:(k == 5) = true:=by rw [e5];rfl
  have p6:(k == 6) = false:=by rw [e5];rfl
  clear e1 e3 e5
  go_enter Tryz.func78,Tryz.ntmps78
  go_wp2;go_ret;exact ⟨ret_int HH.out.symm,rfl⟩
 by_cases e2:k = 2
 ·have HH:Hid (opp k = wrap64 (k - 1)):=by show _ = _;unfold opp wrap64;rw [if_neg (by omega),if_pos (by omega)];omega
  have p1:(k == 1) = false:=by rw [e2];rfl
  have p2:(k == 2) = true:=by rw [e2];rfl
  have p3:(k == 3) = false:=by rw [e2];rfl
  have p4:(k == 4) = false:=by rw [e2];rfl
  have p5:(k == 5) = false:=by rw [e2];rfl
  have p6:(k == 6) = false:=by rw [e2];rfl
  clear e1 e3 e5 e2
  go_enter Tryz.func78,Tryz.ntmps78
  go_wp2;go_ret;exact ⟨ret_int HH.out.symm,rfl⟩
 by_cases e4:k = 4
 ·have HH:Hid (opp k = wrap64 (k - 1)):=by show _ = _;unfold opp wrap64;rw [if_neg (by omega),if_pos (by omega)];omega
  have p1:(k == 1) = false:=by rw [e4];rfl
  have p2:(k == 2) = false:=by rw [e4];rfl
  have p3:(k == 3) = false:=by rw [e4];rfl
  have p4:(k == 4) = true:=by rw [e4];rfl
  have p5:(k == 5) = false:=by rw [e4];rfl
  have p6:(k == 6) = false:=by rw [e4];rfl
  clear e1 e3 e5 e2 e4
  go_enter Tryz.func78,Tryz.ntmps78
  go_wp2;go_ret;exact ⟨ret_int HH.out.symm,rfl⟩
 by_cases e6:k = 6
 ·have HH:Hid (opp k = wrap64 (k - 1)):=by show _ = _;unfold opp wrap64;rw [if_neg (by omega),if_pos (by omega)];omega
  have p1:(k == 1) = false:=by rw [e6];rfl
  have p2:(k == 2) = false:=by rw [e6];rfl
  have p3:(k == 3) = false:=by rw [e6];rfl
  have p4:(k == 4) = false:=by rw [e6];rfl
  have p5:(k == 5) = false:=by rw [e6];rfl
  have p6:(k == 6) = true:=by rw [e6];rfl
  clear e1 e3 e5 e2 e4 e6
  go_enter Tryz.func78,Tryz.ntmps78
  go_wp2;go_ret;exact ⟨ret_int HH.out.symm,rfl⟩
 have HH:Hid (opp k = k):=by show _ = _;unfold opp;rw [if_neg (by omega),if_neg (by omega)]
 have p1:(k == 1) = false:=beq_eq_false_iff_ne.2 e1;have p2:(k == 2) = false:=beq_eq_false_iff_ne.2 e2;have p3:(k == 3) = false:=beq_eq_false_iff_ne.2 e3;have p4:(k == 4) = false:=beq_eq_false_iff_ne.2 e4;have p5:(k == 5) = false:=beq_eq_false_iff_ne.2 e5;have p6:(k == 6) = false:=beq_eq_false_iff_ne.2 e6;clear e1 e2 e3 e4 e5 e6
 go_enter Tryz.func78,Tryz.ntmps78
 go_wp2;go_ret;exact ⟨ret_int HH.out.symm,rfl⟩
theorem set5_drop (X:List Value) (m:Nat) (h:m * 5 + 5≤X.length) (v0 v1 v2 v3 v4:Value) :
  (((((X.set (m * 5) v0).set (m * 5 + 1) v1).set (m * 5 + 2) v2).set (m * 5 + 3) v3).set (m * 5 + 4) v4).drop (m * 5) = v0 :: v1 :: v2 :: v3 :: v4 :: X.drop ((m + 1) * 5):=by
 obtain ⟨A,hA,hX⟩:∃ A:List Value,A.length = m * 5∧X = A ++ X.drop (m * 5):=⟨X.take (m * 5),by rw [List.length_take];omega,(List.take_append_drop _ _).symm⟩;have hL:5≤(X.drop (m * 5)).length:=by rw [List.length_drop];omega
 have hD:X.drop ((m + 1) * 5) = (X.drop (m * 5)).drop 5:=by rw [List.drop_drop];congr 1;omega
 rw [hD];generalize X.drop (m * 5) = Y at *
 match Y,hL with
 | a0 :: a1 :: a2 :: a3 :: a4 :: B,_ =>
  rw [hX];rw [List.set_append_right _ _ (by omega),List.set_append_right _ _ (by omega),List.set_append_right _ _ (by omega),List.set_append_right _ _ (by omega),List.set_append_right _ _ (by omega),← hA,List.drop_left];simp
theorem infoEdit:(Tryz.prog.info? 35).map (fun i => (i.zero.map (fun z => z.cells.size),i.size,i.bytes)) = some (some 5,5,88):=by kernel_rfl
theorem invL_len (l:List OEdit):(invL l).length = l.length:=by rw [invL,List.length_reverse,List.length_map]
theorem invL_drop {l:List OEdit} {k m:Nat} {e:OEdit} (hm:m + k + 1 = l.length) (he:l[k]? = some e):(invL l).drop m = invE e :: (invL l).drop (m + 1):=by
 have h1:(invL l)[m]? = some (invE e):=by
  rw [invL,List.getElem?_reverse (by rw [List.length_map];omega),List.length_map,show l.length - 1 - m = k by omega,List.getElem?_map,he];rfl
 obtain ⟨h2,h3⟩:=List.getElem?_eq_some_iff.1 h1;rw [List.drop_eq_getElem_cons h2,h3]
set_option maxRecDepth 100000 in
set_option maxHeartbeats 8000000 in
theorem Invert_any (l:List OEdit) (a:Option Addr) (c:Nat) (w:World) (hl:Reads w [] (editsT l) (.slice a l.length c)) (hn:l.length≤1000000) :
  Calls Tryz.prog 28 #[.slice a l.length c] w fun r w' => r = .returned (.slice (some ⟨w.heap.size,0,none⟩) l.length l.length)∧Reads w' [] (editsT (invL l)) (.slice (some ⟨w.heap.size,0,none⟩) l.length l.length)∧Below w.heap.size w w':=by
 have HL:=lH hl;obtain ⟨i0,z,hi,hz0,hzs,hz1,hz2⟩:=info_parts' infoEdit;have hmk:=run_make (P:=Tryz.prog) w 23 35 i0 z Tryz.underlying23 hi hz0 .i64 .i64 (l.length:Int) (l.length:Int) (by omega) (Int.le_refl _) (by rw [hz2];omega) (by omega);simp only [Int.toNat_natCast,hz1] at hmk
 have HM0:=lH (CBox.new w 35 (madeCells z.cells (l.length * 5)));have hX0:(madeCells z.cells (l.length * 5)).toList.length = l.length * 5:=by rw [Array.length_toList,size_madeCells]
 have hA:=qalloc w (.cells (madeCells z.cells (l.length * 5)) 35);generalize (w.alloc (.cells (madeCells z.cells (l.length * 5)) 35)) = w1 at *;generalize madeCells z.cells (l.length * 5) = X0 at *;have HX0:=lH hX0;have HA:=lH hA;clear hl hX0 hA hz0 hzs hz1 hz2 hi
 go_enter Tryz.func28,Tryz.ntmps28
 go_wp2;generalize hM:w.heap.size = M at *;have HMM:=lH hM
 go_loopw [11] (fun iv wr => ∃ (k:Nat) (X:List Value),k≤l.length∧iv = .int .i64 k∧Hid (X.length = l.length * 5)∧Hid (CBox wr M 35 X.toArray)∧Hid (ReadsL w [] (((invL l).drop (l.length - k)).flatMap editT) (X.drop ((l.length - k) * 5)))∧Hid (Below M w wr)) (fun iv _ => l.length - (intOf iv).toNat)
 case atStart => exact ⟨0,X0.toList,Nat.zero_le _,rfl,HX0.out,HM0,by
  show ReadsL _ _ _ _
  rw [Nat.sub_zero,List.drop_eq_nil_of_le (by rw [invL_len];omega),List.drop_eq_nil_of_le (by rw [HX0.out];omega),List.flatMap_nil]
  exact ReadsL.nil _ _,HA⟩
 case round =>
  obtain ⟨k,X,hkl,rfl,HXL,HM,HR,HB⟩:=hrel
  by_cases hi:k < l.length
  ·have hd:decide ((k:Int) < (l.length:Int)) = true:=decide_eq_true (by omega)
   have hir:(k:Int) < (l.length:Int):=by omega
   obtain ⟨m,hm⟩:∃ m:Nat,m + k + 1 = l.length:=⟨l.length - 1 - k,by omega⟩;obtain ⟨e,he⟩:∃ e,l[k]? = some e:=⟨_,List.getElem?_eq_getElem hi⟩;have HID:=lH (invL_drop hm he);obtain ⟨b,o,ao,co,an,cn,rfl,hbl,x0',x1',x2',x3',x4',ho1,ho2,hor,hn1,hn2,hnr⟩:=edits_elem HL.out he;have hbw:b < w.heap.size:=hbl;have hB:=HB.out;rw [← hM] at hB;have x0:=(hB.cell (p:=⟨b,_,none⟩) hbl).trans x0';have x1:=(hB.cell (p:=⟨b,_,none⟩) hbl).trans x1';have x2:=(hB.cell (p:=⟨b,_,none⟩) hbl).trans x2'
   have x3:=(hB.cell (p:=⟨b,_,none⟩) hbl).trans x3';have x4:=(hB.cell (p:=⟨b,_,none⟩) hbl).trans x4';have hbr:b < wr.heap.size:=Nat.lt_of_lt_of_le hbl hB.size;have HOR:=lH hor.out;have HNR:=lH hnr.out;have HBX:=lH (CBox.new wr 35 #[.int .i64 e.kind,.string e.pack,.string e.text,.slice ao e.old.length co,.slice an e.fresh.length cn]);have HMA:=lH (HM.out.alloc (.cells #[.int .i64 e.kind,.string e.pack,.string e.text,.slice ao e.old.length co,.slice an e.fresh.length cn] 35))
   have HBA:=lH (HB.out.trans ((qalloc wr (.cells #[.int .i64 e.kind,.string e.pack,.string e.text,.slice ao e.old.length co,.slice an e.fresh.length cn] 35)).mono (by rw [← hM];exact hB.size)));have hMlt:=HM.out.lt;have HMK:=lH hm;clear x0' x1' x2' x3' x4' hor hnr hB he hm HM HB hM;go_upto_region 5 with (fail)
   generalize hWA:wr.alloc (.cells #[.int .i64 e.kind,.string e.pack,.string e.text,.slice ao e.old.length co,.slice an e.fresh.length cn] 35) = wa at *;generalize hBB:wr.heap.size = B at *;have HNE:Hid (M < B):=by show _ < _;omega
   clear hWA hBB x0 x1 x2 x3 x4 hbr hMlt
   go_cut [] from 16 to 34 (fun wx => CBox wx B 35 #[.int .i64 (opp e.kind),.string e.pack,.string e.text,.slice an e.fresh.length cn,.slice ao e.old.length co]∧Mod [B] wa wx)
   case first =>
    have y0:=HBX.out.cell (i:=0) (v:=.int .i64 e.kind) rfl;have y3:=HBX.out.cell (i:=3) (v:=.slice ao e.old.length co) rfl;have y4:=HBX.out.cell (i:=4) (v:=.slice an e.fresh.length cn) rfl;have f0:=HBX.out.frozen 0;have f3:=HBX.out.frozen 3;have f4:=HBX.out.frozen 4;have yl:=HBX.out.lt;have HG:=lH (HBX.out.below (Mod.refl [] wa).drew.below);have HMD:=lH (Mod.refl [B] wa)
    go_region_with (go_at_call 78;refine (opposite_any _ _).mono ?_;rintro r w' ⟨rfl,rfl⟩)
    all_goals (go_wp2_with (fail))
    all_goals go_meet
    all_goals exact ⟨((HG.out.set 0 _).set 3 _).set 4 _,(((HMD.out.setCell (p:=⟨B,0,none⟩) (by simp) _).setCell (p:=⟨B,3,none⟩) (by simp) _).setCell (p:=⟨B,4,none⟩) (by simp) _).drew⟩
   case rest =>
   obtain ⟨hbx,hmod⟩:=hcut;generalize wc = w5 at *;have HM5:=lH (HMA.out.mod hmod (by have:=HNE.out;simp;omega));have HB5:Hid (Below M w w5):=HBA.out.trans (hmod.upto (by have:=HMA.out.lt;omega) (by have:=HNE.out;intro q hq;simp at hq;omega));clear HBX HMA HBA hmod;have hXl:m * 5 + 5≤X.length:=by have h1:=HXL.out;have h2:=HMK.out;omega
   have e0:=hbx.cell (i:=0) (v:=.int .i64 (opp e.kind)) rfl;have e1:=hbx.cell (i:=1) (v:=.string e.pack) rfl;have e2:=hbx.cell (i:=2) (v:=.string e.text) rfl;have e3:=hbx.cell (i:=3) (v:=.slice an e.fresh.length cn) rfl;have e4:=hbx.cell (i:=4) (v:=.slice ao e.old.length co) rfl;have el:=hbx.lt;have mf0:=HM5.out.frozen (m * 5 + 0);have mc0:=HM5.out.cell (i:=m * 5 + 0) (v:=X[m * 5 + 0]'(by omega)) (by rw [List.getElem?_toArray];exact List.getElem?_eq_getElem _);generalize X[m * 5 + 0]'_ = xx0 at *;have mf1:=HM5.out.frozen (m * 5 + 1)
   have mc1:=HM5.out.cell (i:=m * 5 + 1) (v:=X[m * 5 + 1]'(by omega)) (by rw [List.getElem?_toArray];exact List.getElem?_eq_getElem _);generalize X[m * 5 + 1]'_ = xx1 at *;have mf2:=HM5.out.frozen (m * 5 + 2);have mc2:=HM5.out.cell (i:=m * 5 + 2) (v:=X[m * 5 + 2]'(by omega)) (by rw [List.getElem?_toArray];exact List.getElem?_eq_getElem _);generalize X[m * 5 + 2]'_ = xx2 at *;have mf3:=HM5.out.frozen (m * 5 + 3);have mc3:=HM5.out.cell (i:=m * 5 + 3) (v:=X[m * 5 + 3]'(by omega)) (by rw [List.getElem?_toArray];exact List.getElem?_eq_getElem _)
   generalize X[m * 5 + 3]'_ = xx3 at *;have mf4:=HM5.out.frozen (m * 5 + 4);have mc4:=HM5.out.cell (i:=m * 5 + 4) (v:=X[m * 5 + 4]'(by omega)) (by rw [List.getElem?_toArray];exact List.getElem?_eq_getElem _);generalize X[m * 5 + 4]'_ = xx4 at *;have ml:=HM5.out.lt;rw [Nat.add_zero] at mf0 mc0;have HME:Hid (m = l.length - 1 - k):=by show _ = _;have:=HMK.out;omega
   rw [HME.out] at mf0 mf1 mf2 mf3 mf4 mc0 mc1 mc2 mc3 mc4;have HX5:=lH hXl;clear hbx hXl;go_upto_region 7 with (fail)
   rw [← HME.out];generalize hW6:(((((w5.setCell ⟨M,m * 5,none⟩ (.int .i64 (opp e.kind))).setCell ⟨M,m * 5 + 1,none⟩ (.string e.pack)).setCell ⟨M,m * 5 + 2,none⟩ (.string e.text)).setCell ⟨M,m * 5 + 3,none⟩ (.slice an e.fresh.length cn)).setCell ⟨M,m * 5 + 4,none⟩ (.slice ao e.old.length co)) = w6 at *
   have HC6:Hid (CBox w6 M 35 (((((X.set (m * 5) (.int .i64 (opp e.kind))).set (m * 5 + 1) (.string e.pack)).set (m * 5 + 2) (.string e.text)).set (m * 5 + 3) (.slice an e.fresh.length cn)).set (m * 5 + 4) (.slice ao e.old.length co)).toArray):=by
    show CBox _ _ _ _
    rw [← hW6];have q:=((((HM5.out.set (m * 5) (.int .i64 (opp e.kind))).set (m * 5 + 1) (.string e.pack)).set (m * 5 + 2) (.string e.text)).set (m * 5 + 3) (.slice an e.fresh.length cn)).set (m * 5 + 4) (.slice ao e.old.length co)
    simpa only [List.setIfInBounds_toArray] using q
   have HB6:Hid (Below M w w6):=by
    show Below _ _ _
    rw [← hW6];refine HB5.out.trans (Mod.upto (X:=[M]) (((((Mod.refl [M] w5).setCell (p:=⟨M,m * 5,none⟩) (by simp) _).setCell (p:=⟨M,m * 5 + 1,none⟩) (by simp) _).setCell (p:=⟨M,m * 5 + 2,none⟩) (by simp) _).setCell (p:=⟨M,m * 5 + 3,none⟩) (by simp) _ |>.setCell (p:=⟨M,m * 5 + 4,none⟩) (by simp) _) (by omega) (by intro q hq;simp at hq;omega))
   have hkm:l.length - k = m + 1:=by have:=HMK.out;omega
   have hkm2:l.length - (k + 1) = m:=by have:=HMK.out;omega
   rw [hkm] at HR
   have HR6:Hid (ReadsL w [] (((invL l).drop (l.length - (k + 1))).flatMap editT) ((((((X.set (m * 5) (.int .i64 (opp e.kind))).set (m * 5 + 1) (.string e.pack)).set (m * 5 + 2) (.string e.text)).set (m * 5 + 3) (.slice an e.fresh.length cn)).set (m * 5 + 4) (.slice ao e.old.length co)).drop ((l.length - (k + 1)) * 5))):=by
    show ReadsL _ _ _ _
    rw [hkm2,HID.out,set5_drop X m HX5.out,List.flatMap_cons];refine ReadsL.append (ds:=editT (invE e)) (xs:=[.int .i64 (opp e.kind),.string e.pack,.string e.text,.slice an e.fresh.length cn,.slice ao e.old.length co]) HR.out ?_;exact ReadsL.cons (Reads.leaf' _ _ _) (ReadsL.cons (Reads.leaf' _ _ _) (ReadsL.cons (Reads.leaf' _ _ _) (ReadsL.cons HNR.out (ReadsL.cons HOR.out (ReadsL.nil _ _)))))
   clear hW6 mf0 mf1 mf2 mf3 mf4 mc0 mc1 mc2 mc3 mc4 e0 e1 e2 e3 e4 el ml hkm hkm2;go_wp2;go_roundw
   case rel => exact ⟨k + 1,_,by omega,by go_num,by show _ = _;simp only [List.length_set];exact HXL.out,HC6,HR6,HB6⟩
   case measure => simp [intOf];omega
  ·have hd:decide ((k:Int) < (l.length:Int)) = false:=decide_eq_false (by omega)
   obtain rfl:k = l.length:=by omega
   have HF:Hid (Reads wr [] (editsT (invL l)) (.slice (some ⟨M,0,none⟩) l.length l.length)):=by
    show Reads _ _ _ _
    have h1:=HR.out;rw [Nat.sub_self,Nat.zero_mul,List.drop_zero,List.drop_zero] at h1;have h2:=invL_len l;rw [← h2];have hlt:=HM.out.lt;have hlw:M≤w1.heap.size:=by have q:=HA.out.size;have:=HMM.out;omega
    refine Reads.ofRow (l:=invL l) (f:=editT) (xs:=X) ⟨by rw [h2];exact HXL.out,some ⟨M,0,none⟩,(invL l).length,rfl,Nat.le_refl _,by unfold maxLen;omega,fun _ => ⟨M,0,rfl,hlt,fun j u hj => ?_⟩⟩ (fun _ b _ => by simp) ?_
    ·rw [Nat.zero_add];exact HM.out.cell (by rw [List.getElem?_toArray];exact hj)
    ·refine h1.below ?_
     have q:=HB.out;rw [← HMM.out] at q;exact q
   go_wp2;go_ret;have hM:=HMM.out;subst hM;exact ⟨rfl,HF.out,HB.out⟩
end Go.Proofs.YtdpnfkjafhbndaaGreatDoor
namespace Go.Proofs.YtdpnfkjafhbndaaGreatDoor
open Go.RowKit
theorem firstNZ_zero:∀ {l:List Int},firstNZ l = 0↔∀ x∈l,x = 0
 | [] => by simp [firstNZ]
 | a :: r => by
  rw [firstNZ];split
  ·rename_i h;rw [firstNZ_zero];simp [h]
  ·rename_i h;simp [h]
theorem nz_zero {f:Nat→Int} {n:Nat}:nzFrom f n 0 = 0↔∀ k,k < n→f k = 0:=by
 unfold nzFrom;rw [List.drop_zero,firstNZ_zero];simp
theorem testErr_zero {l:List OMod}:testErr l = 0↔∀ m∈l,modErr m = 0:=by
 unfold testErr;rw [nz_zero]
 constructor
 ·intro h m hm
  obtain ⟨k,hk,rfl⟩:=List.mem_iff_getElem.1 hm;have:=h k hk;rwa [mAt_of (List.getElem?_eq_getElem hk)] at this
 ·intro h k hk
  rw [mAt_of (List.getElem?_eq_getElem hk)];exact h _ (List.getElem_mem hk)
theorem editErr_zero {e:OEdit}:editErr e = 0↔(1≤e.kind∧e.kind≤9)∧fitsB e = true∧∀ m∈testsOf e,modErr m = 0:=by
 unfold editErr;split
 ·rename_i h
  split
  ·rename_i h2;rw [testErr_zero];simp [h,h2]
  ·rename_i h2;simp [h2]
 ·rename_i h;simp;intro h1 h2;exact absurd ⟨h1,h2⟩ h
theorem sameD_symm (a b:ODecl):sameD a b = sameD b a:=by
 rw [Bool.eq_iff_iff,sameD_iff,sameD_iff];exact ⟨fun h => h.symm,fun h => h.symm⟩
theorem changeB_symm (k:Int) (o f:ODecl):changeB k o f = changeB k f o:=by
 unfold changeB;rw [sameD_symm f o,show (f.id == o.id) = (o.id == f.id) from by rw [Bool.eq_iff_iff];simp;exact ⟨fun h => h.symm,fun h => h.symm⟩]
 cases sameD o (partD k o) <;> cases sameD f (partD k f) <;> rfl
theorem opp_cases {k:Int} (h1:1≤k) (h9:k≤9):(1≤opp k∧opp k≤9)∧oldsN (opp k) = newsN k∧newsN (opp k) = oldsN k∧((opp k = 3∨opp k = 4)↔(k = 3∨k = 4))∧((opp k = 1∨opp k = 2)↔(k = 1∨k = 2))∧(7≤k→opp k = k)∧(k < 7→opp k < 7)∧opp (opp k) = k:=by
 have h:k = 1∨k = 2∨k = 3∨k = 4∨k = 5∨k = 6∨k = 7∨k = 8∨k = 9:=by omega
 rcases h with rfl | rfl | rfl | rfl | rfl | rfl | rfl | rfl | rfl <;> decide
theorem textBad_inv {k:Int} (h1:1≤k) (h9:k≤9) (t:ByteArray):textBad (opp k) t = textBad k t:=by
 unfold textBad;have h:k = 1∨k = 2∨k = 3∨k = 4∨k = 5∨k = 6∨k = 7∨k = 8∨k = 9:=by omega
 have e:((opp k != 3) && (opp k != 4)) = ((k != 3) && (k != 4)):=by
  rcases h with rfl | rfl | rfl | rfl | rfl | rfl | rfl | rfl | rfl <;> decide
 rw [e]
theorem fitsB_inv {e:OEdit} (h1:1≤e.kind) (h9:e.kind≤9) (h:fitsB e = true):fitsB (invE e) = true:=by
 obtain ⟨_,ho,hn,_,_,h7,hl,_⟩:=opp_cases h1 h9;unfold fitsB at h ⊢;split at h
 ·rename_i hc
  rw [if_pos (show (invE e).old.length = oldsN (invE e).kind∧(invE e).fresh.length = newsN (invE e).kind from by
   show e.fresh.length = oldsN (opp e.kind)∧e.old.length = newsN (opp e.kind)
   rw [ho,hn];exact ⟨hc.2,hc.1⟩)]
  split at h
  ·cases h
  ·rename_i ht
   rw [if_neg (show ¬ textBad (invE e).kind (invE e).text = true from by
    show ¬ textBad (opp e.kind) e.text = true
    rw [textBad_inv h1 h9];exact ht)]
   split at h
   ·rename_i hk;rw [if_pos (show (invE e).kind < 7 from hl hk)]
   ·rename_i hk
    have e7:=h7 (by omega);rw [if_neg (show ¬ (invE e).kind < 7 from by show ¬ opp e.kind < 7;rw [e7];exact hk)];show changeB (opp e.kind) (dAt e.fresh 0) (dAt e.old 0) = true
    rw [e7,changeB_symm];exact h
 ·cases h
theorem tests_inv {e:OEdit} (h1:1≤e.kind) (h9:e.kind≤9) (h:∀ m∈testsOf e,modErr m = 0):∀ m∈testsOf (invE e),modErr m = 0:=by
 obtain ⟨_,_,_,h34,h12,h7,hl,_⟩:=opp_cases h1 h9;intro m hm;apply h
 unfold testsOf at hm ⊢
 by_cases a:e.kind = 1∨e.kind = 2
 ·rw [if_pos (show (invE e).kind = 1∨(invE e).kind = 2 from h12.2 a)] at hm;rw [if_pos a];exact hm
 rw [if_neg (show ¬ ((invE e).kind = 1∨(invE e).kind = 2) from fun x => a (h12.1 x))] at hm;rw [if_neg a]
 by_cases b:e.kind = 3∨e.kind = 4
 ·rw [if_pos (show (invE e).kind = 3∨(invE e).kind = 4 from h34.2 b)] at hm;rw [if_pos b];exact hm
 rw [if_neg (show ¬ ((invE e).kind = 3∨(invE e).kind = 4) from fun x => b (h34.1 x))] at hm;rw [if_neg b];obtain ⟨d,hd,rfl⟩:=List.mem_map.1 hm
 have hc:compD (invE e).kind d = compD e.kind d:=by
  show compD (opp e.kind) d = _
  by_cases c:e.kind < 7
  ·rw [compD_low (hl c),compD_low c]
  ·rw [h7 (by omega)]
 refine List.mem_map.2 ⟨d,List.mem_append.2 ((List.mem_append.1 hd).symm),?_⟩;rw [hc];rfl
theorem editErr_inv {e:OEdit} (h:editErr e = 0):editErr (invE e) = 0:=by
 obtain ⟨⟨h1,h9⟩,hf,ht⟩:=editErr_zero.1 h;exact editErr_zero.2 ⟨(opp_cases h1 h9).1,fitsB_inv h1 h9 hf,tests_inv h1 h9 ht⟩
theorem concI_inv {e:OEdit} (h:editErr e = 0):concI (invE e) = concI e:=by
 obtain ⟨⟨h1,h9⟩,hf,_⟩:=editErr_zero.1 h;unfold concI;have hk:e.kind = 1∨e.kind = 2∨e.kind = 3∨e.kind = 4∨e.kind = 5∨e.kind = 6∨7≤e.kind:=by omega
 have ek:(invE e).kind = opp e.kind:=rfl
 rcases hk with k | k | k | k | k | k | k
 ·rw [if_pos (show (invE e).kind≤4 by rw [ek,k];decide),if_pos (by omega)]
 ·rw [if_pos (show (invE e).kind≤4 by rw [ek,k];decide),if_pos (by omega)]
 ·rw [if_pos (show (invE e).kind≤4 by rw [ek,k];decide),if_pos (by omega)]
 ·rw [if_pos (show (invE e).kind≤4 by rw [ek,k];decide),if_pos (by omega)]
 ·rw [if_neg (show ¬ (invE e).kind≤4 by rw [ek,k];decide),if_neg (show ¬ (invE e).kind = 5 by rw [ek,k];decide),if_neg (by omega),if_pos (by omega)];rfl
 ·rw [if_neg (show ¬ (invE e).kind≤4 by rw [ek,k];decide),if_pos (show (invE e).kind = 5 by rw [ek,k];decide),if_neg (by omega),if_neg (by omega)];rfl
 ·have e7:(invE e).kind = e.kind:=(opp_cases h1 h9).2.2.2.2.2.1 k
  rw [e7,if_neg (by omega),if_neg (by omega),if_neg (by omega),if_neg (by omega)];show (dAt e.fresh 0).id = (dAt e.old 0).id
  unfold fitsB at hf;split at hf
  ·split at hf
   ·cases hf
   ·rw [if_neg (by omega)] at hf
    unfold changeB at hf;simp only [Bool.and_eq_true,beq_iff_eq] at hf
    exact hf.2.2.1.symm
  ·cases hf
theorem smX_small {x:Ex}:∀ (_:SmX 9223372036854775807 x) (_:anyX longP x = false),SmX 40000 x:=by
 refine Ex.ind (P:=fun x => ∀ (_:SmX 9223372036854775807 x) (_:anyX longP x = false),SmX 40000 x) (fun x ih h hl => ?_) x;have hs:=h.subs
 cases x with
 | mk k n m i d s =>
  rw [anyX_eq] at hl;simp only [Bool.or_eq_false_iff] at hl
  obtain ⟨h1,h2⟩:=hl;unfold longP at h1;simp only [Bool.or_eq_false_iff,decide_eq_false_iff_not] at h1
  refine .mk (by have:=h1.1;simp only [Ex.name] at this;omega) (by have:=h1.2;simp only [Ex.more] at this;omega) h.kind h.num h.den (fun y hy => ih y hy (hs y hy) ?_);rw [List.any_eq_false] at h2
  simpa using h2 y hy
structure BigE (e:OEdit):Prop where
 pack:e.pack.size≤4000000
 text:e.text.size≤4000000
 old:∀ d∈e.old,BigD d
 fresh:∀ d∈e.fresh,BigD d
theorem smD_of {d:ODecl} (h:BigD d) (g:greatD d = false):SmD d∧nodesN d.body≤1000000:=by
 unfold greatD greatX at g;simp only [Bool.or_eq_false_iff,decide_eq_false_iff_not,List.any_eq_false,decide_eq_true_eq] at g
 obtain ⟨⟨g1,g2,g3⟩,g4⟩:=g;exact ⟨⟨fun s hs => by have:=g4 s hs;omega,by omega,smX_small h.body g3,by omega⟩,by omega⟩
theorem smDs_of {l:List ODecl} (h:∀ d∈l,BigD d) (g:greatDs l = false):(∀ d∈l,SmD d∧nodesN d.body≤1000000)∧l.length≤1000000:=by
 unfold greatDs at g;split at g
 ·cases g
 ·rename_i h8
  rw [List.any_eq_false] at g;exact ⟨fun d hd => smD_of (h d hd) (by simpa using g d hd),by omega⟩
theorem smE_of {e:OEdit} (h:BigE e) (g:greatE e = false):SmE e:=by
 unfold greatE at g;simp only [Bool.or_eq_false_iff,decide_eq_false_iff_not] at g
 obtain ⟨⟨⟨g1,g2⟩,g3⟩,g4⟩:=g;obtain ⟨o1,o2⟩:=smDs_of h.old g3;obtain ⟨f1,f2⟩:=smDs_of h.fresh g4;exact ⟨by omega,by omega,o1,f1,o2,f2⟩
end Go.Proofs.YtdpnfkjafhbndaaGreatDoor

