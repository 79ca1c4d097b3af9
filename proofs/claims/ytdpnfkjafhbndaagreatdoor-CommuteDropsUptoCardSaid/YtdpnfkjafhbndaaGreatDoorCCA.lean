/- Great and Same of modules and of lists of modules. What applying edits makes of sizes. No program in sight. Picking and dropping: some of the edits ahead of the others. No program in sight. Small functions of the laws of chapter 35: twice, adds, leads; the reference's Rest. -/
import Derived.Test.YtdpnfkjafhbndaaGreatDoorCG5
import Derived.Test.YtdpnfkjafhbndaaGreatDoorCBL
import Derived.Test.YtdpnfkjafhbndaaGreatDoorCPA
import Derived.Test.YtdpnfkjafhbndaaGreatDoorCW1
namespace Go.Proofs.YtdpnfkjafhbndaaGreatDoor
open Go.RowKit Go.Shelf
attribute [local go_sem] Oper.semAt_some
theorem strs_at {w:World} {l:List ByteArray} {a:Option Addr} {c i:Nat} {s:ByteArray} (h:Strs w (.slice a l.length c) l) (hi:l[i]? = some s):∃ b o,a = some ⟨b,o,none⟩∧b < w.heap.size∧w.cell? ⟨b,o + i,none⟩ = some (.string s):=by
 obtain ⟨a',cap,e,_,_,hc⟩:=h.shape
 injection e with e1 e2 e3
 subst e1;obtain ⟨hl,rfl⟩:=List.getElem?_eq_some_iff.1 hi;obtain ⟨b,o,rfl,hb,hk⟩:=hc i hl;refine ⟨b,o,rfl,hb,?_⟩;rw [hk i hl,List.getD_eq_getElem?_getD,List.getElem?_eq_getElem hl];rfl
def greatU (l:List ByteArray):Bool:=if 10 < l.length then true else l.any fun s => decide (120 < s.size)
def greatM (m:OMod):Bool:=decide (120 < m.label.size) || (greatU m.uses || greatDs m.decls)
set_option maxRecDepth 100000 in
set_option maxHeartbeats 2000000 in
theorem rGreatUses_any (l:List ByteArray) (a:Option Addr) (c:Nat) (w:World) (hr:Strs w (.slice a l.length c) l) (hs:∀ s∈l,s.size≤4000000) :
  Calls Tryz.prog 100 #[.slice a l.length c] w fun e w' => e = .returned (.bool (greatU l))∧Below w.heap.size w w':=by
 have HR:=lH hr;have HS:=lH hs;clear hr hs
 by_cases h10:10 < l.length
 ·have hd:decide ((10:Int) < (l.length:Int)) = true:=decide_eq_true (by omega)
  have HF:Hid (greatU l = true):=by show _ = _;unfold greatU;rw [if_pos h10]
  clear h10
  go_enter Tryz.func100,Tryz.ntmps100
  go_wp2;go_ret;exact ⟨ret_bool HF.out.symm,qrefl _⟩
 ·have hd:decide ((10:Int) < (l.length:Int)) = false:=decide_eq_false (by omega)
  have HF:Hid (greatU l = (l.drop 0).any fun s => decide (120 < s.size)):=by show _ = _;unfold greatU;rw [if_neg h10];rfl
  go_enter Tryz.func100,Tryz.ntmps100
  go_wp2
  go_loopw [3] (fun iv wr => ∃ i:Nat,i≤l.length∧iv = .int .i64 i∧Hid (greatU l = (l.drop i).any fun s => decide (120 < s.size))∧Below w.heap.size w wr) (fun iv _ => l.length - (intOf iv).toNat)
  case atStart => exact ⟨0,Nat.zero_le _,rfl,HF,qrefl _⟩
  case round =>
   obtain ⟨i,hil,rfl,HI,hb⟩:=hrel;clear HF
   by_cases hi:i < l.length
   ·have hd2:decide ((i:Int) < (l.length:Int)) = true:=decide_eq_true (by omega)
    have hir:(i:Int) < (l.length:Int):=by omega
    obtain ⟨s,hs⟩:∃ s,l[i]? = some s:=⟨_,List.getElem?_eq_getElem hi⟩;obtain ⟨sb,so,rfl,hsb,hsc⟩:=strs_at (HR.out.below hb) hs;have HX:=lH (HI.out.trans (any_at (f:=fun s:ByteArray => decide (120 < s.size)) hs));have hsz:=HS.out s (List.mem_of_getElem? hs);clear hs HI
    by_cases h:120 < s.size
    ·have hq:decide ((120:Int) < (s.size:Int)) = true:=decide_eq_true (by omega)
     have HT:Hid (greatU l = true):=by show _ = _;rw [HX.out,decide_eq_true h];rfl
     clear h HX;go_wp2;go_ret;exact ⟨ret_bool HT.out.symm,hb⟩
    ·have hq:decide ((120:Int) < (s.size:Int)) = false:=decide_eq_false (by omega)
     have HT:Hid (greatU l = (l.drop (i + 1)).any fun s => decide (120 < s.size)):=by show _ = _;rw [HX.out,decide_eq_false h,Bool.false_or]
     clear h HX;go_wp2;go_roundw
     case rel => exact ⟨i + 1,by omega,by go_num,HT,hb⟩
     case measure => simp [intOf];omega
   ·have hd2:decide ((i:Int) < (l.length:Int)) = false:=decide_eq_false (by omega)
    have HT:Hid (greatU l = false):=by show _ = _;rw [HI.out,any_end (by omega)]
    go_wp2;go_ret;exact ⟨ret_bool HT.out.symm,hb⟩
set_option maxRecDepth 100000 in
set_option maxHeartbeats 2000000 in
theorem r24Great_any (m:OMod) (aum adm:Option Addr) (cum cdm:Nat) (w:World) (hm:ModIn w [] m aum cum adm cdm) (hs:BigM m) :
  Calls Tryz.prog 46 #[modV m aum cum adm cdm] w fun e w' => e = .returned (.bool (greatM m))∧Below w.heap.size w w':=by
 have HB:=lH (CBox.new w 52 #[.string m.label,.slice aum m.uses.length cum,.slice adm m.decls.length cdm]);have HA:=lH (qalloc w (.cells #[.string m.label,.slice aum m.uses.length cum,.slice adm m.decls.length cdm] 52));have HM:=lH hm;have HBM:=lH hs;have hls:=hs.label;clear hm hs;unfold modV
 go_enter Tryz.func46,Tryz.ntmps46
 go_upto_region 1 with (fail)
 generalize w.alloc (.cells #[.string m.label,.slice aum m.uses.length cum,.slice adm m.decls.length cdm] 52) = W0 at *;obtain ⟨B,hB⟩:∃ B,w.heap.size = B:=⟨_,rfl⟩;rw [hB] at HB ⊢;clear hB;have y0:=(HB.out).cell (i:=0) (v:=.string m.label) rfl;have y1:=(HB.out).cell (i:=1) (v:=.slice aum m.uses.length cum) rfl;have y2:=(HB.out).cell (i:=2) (v:=.slice adm m.decls.length cdm) rfl;have yl:=(HB.out).lt
 by_cases h:120 < m.label.size
 ·have hd:decide ((120:Int) < (m.label.size:Int)) = true:=decide_eq_true (by omega)
  have HF:Hid (greatM m = true):=by show _ = _;unfold greatM;rw [decide_eq_true h];rfl
  clear h;go_wp2;go_ret;exact ⟨ret_bool HF.out.symm,HA.out⟩
 ·have hd:decide ((120:Int) < (m.label.size:Int)) = false:=decide_eq_false (by omega)
  have HF:Hid (greatM m = (greatU m.uses || greatDs m.decls)):=by show _ = _;unfold greatM;rw [decide_eq_false h];rfl
  have HU:=lH (rGreatUses_any m.uses aum cum W0 (reads_strs.1 (HM.out.uses.below HA.out)).1 HBM.out.uses);clear h;generalize greatU m.uses = q at *
  cases q with
  | true =>
   go_wp2_with (fail)
   refine HU.out.mono ?_;rintro e w1 ⟨rfl,hb1⟩;have hbw:=HA.out.trans (hb1.mono HA.out.size);go_wp2;go_ret;exact ⟨ret_bool HF.out.symm,hbw⟩
  | false =>
   go_wp2_with (fail)
   refine HU.out.mono ?_;rintro e w1 ⟨rfl,hb1⟩;have hbw:=HA.out.trans (hb1.mono HA.out.size);have HB1:=lH (HB.out.below hb1);have HG:=lH (rGreatDecls_any m.decls adm cdm w1 (HM.out.decls.below hbw) HBM.out.decls);rw [Bool.false_or] at HF;clear y0 y1 y2 yl HU;have y0:=(HB1.out).cell (i:=0) (v:=.string m.label) rfl;have y1:=(HB1.out).cell (i:=1) (v:=.slice aum m.uses.length cum) rfl;have y2:=(HB1.out).cell (i:=2) (v:=.slice adm m.decls.length cdm) rfl;have yl:=(HB1.out).lt;generalize greatDs m.decls = r at *;go_wp2_with (fail)
   refine HG.out.mono ?_;rintro e w2 ⟨rfl,hb2⟩;go_wp2;go_ret;exact ⟨ret_bool HF.out.symm,hbw.trans (hb2.mono hbw.size)⟩
def sameM (m n:OMod):Bool:=eqS m.label n.label && (sameSs m.uses n.uses && sameDs m.decls n.decls)
theorem sameM_iff {m n:OMod}:sameM m n = true↔m = n:=by
 unfold sameM;rw [Bool.and_eq_true,Bool.and_eq_true,sameSs_iff,sameDs_iff,eqS_iff]
 cases m;cases n
 simp
set_option maxRecDepth 100000 in
set_option maxHeartbeats 2000000 in
theorem r24Same_any (m n:OMod) (aum adm aun adn:Option Addr) (cum cdm cun cdn:Nat) (w:World) (hm:ModIn w [] m aum cum adm cdm) (hn:ModIn w [] n aun cun adn cdn) (hs:∀ x∈m.decls,x.names.length≤1000000∧nodesN x.body≤1000000) (hul:m.uses.length≤1000000) (hdl:m.decls.length≤1000000) :
  Calls Tryz.prog 41 #[modV m aum cum adm cdm,modV n aun cun adn cdn] w fun e w' => e = .returned (.bool (sameM m n))∧Below w.heap.size w w':=by
 obtain ⟨hb,hr,hA⟩:=two_boxes w 52 #[.string m.label,.slice aum m.uses.length cum,.slice adm m.decls.length cdm] #[.string n.label,.slice aun n.uses.length cun,.slice adn n.decls.length cdn];have HM:=lH hm;have HN:=lH hn;have HS:=lH hs;clear hm hn hs;unfold modV
 go_enter Tryz.func41,Tryz.ntmps41
 go_upto_region 1 with (fail)
 generalize (w.alloc (.cells #[.string m.label,.slice aum m.uses.length cum,.slice adm m.decls.length cdm] 52)).alloc (.cells #[.string n.label,.slice aun n.uses.length cun,.slice adn n.decls.length cdn] 52) = W0 at *;obtain ⟨R,hR⟩:∃ R,w.heap.size + 1 = R:=⟨_,rfl⟩;rw [hR] at hr ⊢;have HR:=lH hr;have HB:=lH hb;have HA:=lH hA;obtain ⟨B,hB⟩:∃ B,w.heap.size = B:=⟨_,rfl⟩;rw [hB] at HB ⊢;clear hR hB hr hb hA;have y0:=(HB.out).cell (i:=0) (v:=.string m.label) rfl;have y1:=(HB.out).cell (i:=1) (v:=.slice aum m.uses.length cum) rfl
 have y2:=(HB.out).cell (i:=2) (v:=.slice adm m.decls.length cdm) rfl;have yl:=(HB.out).lt;have z0:=(HR.out).cell (i:=0) (v:=.string n.label) rfl;have z1:=(HR.out).cell (i:=1) (v:=.slice aun n.uses.length cun) rfl;have z2:=(HR.out).cell (i:=2) (v:=.slice adn n.decls.length cdn) rfl;have zl:=(HR.out).lt;have HF:Hid (sameM m n = (eqS m.label n.label && (sameSs m.uses n.uses && sameDs m.decls n.decls))):=rfl;obtain ⟨q,hq⟩:∃ q,(m.label.toList == n.label.toList) = q:=⟨_,rfl⟩;have HQ:Hid (eqS m.label n.label = q):=hq
 cases q with
 | false =>
  have HT:Hid (sameM m n = false):=by show _ = _;rw [HF.out,HQ.out];rfl
  go_wp2;go_ret;exact ⟨ret_bool HT.out.symm,HA.out⟩
 | true =>
  rw [HQ.out,Bool.true_and] at HF;have HU:=lH (fun w1 h => rSameStrings_any m.uses n.uses aum aun cum cun w1 (reads_strs.1 (HM.out.uses.below h)).1 (reads_strs.1 (HN.out.uses.below h)).1 hul);generalize sameSs m.uses n.uses = s at *
  cases s with
  | false =>
   have HT:Hid (sameM m n = false):=by show _ = _;rw [HF.out];rfl
   go_wp2_with (fail)
   refine (HU.out _ HA.out).mono ?_;rintro e w1 ⟨rfl,hb1⟩;go_wp2;go_ret;exact ⟨ret_bool HT.out.symm,HA.out.trans (hb1.mono HA.out.size)⟩
  | true =>
   rw [Bool.true_and] at HF;go_wp2_with (fail)
   refine (HU.out _ HA.out).mono ?_;rintro e w1 ⟨rfl,hb1⟩;have hbw:=HA.out.trans (hb1.mono HA.out.size);have HB1:=lH (HB.out.below hb1);have HR1:=lH (HR.out.below hb1);have HD:=lH (rSameDecls_any m.decls n.decls adm adn cdm cdn w1 (HM.out.decls.below hbw) (HN.out.decls.below hbw) HS.out hdl);clear y0 y1 y2 yl z0 z1 z2 zl HU;have y0:=(HB1.out).cell (i:=0) (v:=.string m.label) rfl;have y1:=(HB1.out).cell (i:=1) (v:=.slice aum m.uses.length cum) rfl;have y2:=(HB1.out).cell (i:=2) (v:=.slice adm m.decls.length cdm) rfl;have yl:=(HB1.out).lt
   have z0:=(HR1.out).cell (i:=0) (v:=.string n.label) rfl;have z1:=(HR1.out).cell (i:=1) (v:=.slice aun n.uses.length cun) rfl;have z2:=(HR1.out).cell (i:=2) (v:=.slice adn n.decls.length cdn) rfl;have zl:=(HR1.out).lt;generalize sameDs m.decls n.decls = t at *;go_wp2_with (fail)
   refine HD.out.mono ?_;rintro e w2 ⟨rfl,hb2⟩;go_wp2;go_ret;exact ⟨ret_bool HF.out.symm,hbw.trans (hb2.mono hbw.size)⟩
theorem smM_of {m:OMod} (h:BigM m) (g:greatM m = false):(m.label.size≤120∧(∀ s∈m.uses,s.size≤40000)∧m.uses.length≤10∧m.decls.length≤8)∧∀ d∈m.decls,SmD d∧nodesN d.body≤1000000:=by
 unfold greatM at g;simp only [Bool.or_eq_false_iff,decide_eq_false_iff_not] at g
 obtain ⟨g1,g2,g3⟩:=g;unfold greatU at g2;split at g2
 ·cases g2
 ·unfold greatDs at g3
  split at g3
  ·cases g3
  ·have k3:∀ d∈m.decls,greatD d = false:=fun d hd => by
    have:=List.any_eq_false.1 g3 d hd
    simpa using this
   exact ⟨⟨by omega,fun s hs => by
    have:=List.any_eq_false.1 g2 s hs;simp at this
    omega,by omega,by omega⟩,fun d hd => smD_of (h.decls d hd) (k3 d hd)⟩
def greatMs (l:List OMod):Bool:=l.any greatM || decide (4 < l.length)
theorem szB_of {l:List OMod} (h:∀ m∈l,BigM m) (g:greatMs l = false):SzB 10 l:=by
 unfold greatMs at g;simp only [Bool.or_eq_false_iff,List.any_eq_false,decide_eq_false_iff_not] at g
 refine ⟨by omega,fun m hm => ?_⟩;obtain ⟨⟨h1,h2,h3,h4⟩,h5⟩:=smM_of (h m hm) (by simpa using g.1 m hm);exact ⟨⟨by omega,h2,h3,by omega⟩,h5⟩
set_option maxRecDepth 100000 in
set_option maxHeartbeats 4000000 in
theorem r34Great_any (l:List OMod) (a:Option Addr) (c:Nat) (w:World) (hl:Reads w [] (modsT l) (.slice a l.length c)) (hs:∀ m∈l,BigM m) (hn:l.length≤4000000) :
  Calls Tryz.prog 14 #[.slice a l.length c] w fun r w' => r = .returned (.bool (greatMs l))∧Below w.heap.size w w':=by
 have HL:=lH hl;have HS:=lH hs;clear hl hs;have HG:Hid (greatMs l = (l.any greatM || decide (4 < l.length))):=rfl;have HE:Hid (l.any greatM = (l.drop 0).any greatM):=rfl;generalize l.any greatM = T0 at *;generalize greatMs l = T at *
 go_enter Tryz.func14,Tryz.ntmps14
 go_wp2
 go_loopw [3] (fun iv wr => ∃ i:Nat,i≤l.length∧iv = .int .i64 i∧Hid (T0 = (l.drop i).any greatM)∧Below w.heap.size w wr) (fun iv _ => l.length - (intOf iv).toNat)
 case atStart => exact ⟨0,Nat.zero_le _,rfl,HE,qrefl _⟩
 case round =>
  obtain ⟨i,hil,rfl,HI,hb⟩:=hrel
  by_cases hi:i < l.length
  ·have hd:decide ((i:Int) < (l.length:Int)) = true:=decide_eq_true (by omega)
   have hir:(i:Int) < (l.length:Int):=by omega
   obtain ⟨m,hm⟩:∃ m,l[i]? = some m:=⟨_,List.getElem?_eq_getElem hi⟩;obtain ⟨b,o,au,cu,ad,cd,rfl,hbl,x0,x1,x2,q1,q2,hru,q3,q4,hrd⟩:=mods_elem (HL.out.below hb) hm;have HD:=lH (r24Great_any m au ad cu cd wr ⟨hru.out,hrd.out,q1,q2,q3,q4⟩ (HS.out m (List.mem_of_getElem? hm)));have HN:=lH (HI.out.trans (any_at (f:=greatM) hm));clear hru hrd HI hm q1 q2 q3 q4;unfold modV at HD;generalize greatM m = ge at *;go_wp2_with (fail)
   refine HD.out.mono ?_;rintro r w1 ⟨rfl,hb1⟩;have hB:=hb.trans (hb1.mono hb.size);clear HD
   cases ge with
   | true =>
    have HF:Hid (T = true):=by show _ = _;rw [HG.out,HN.out];simp only [Bool.true_or]
    go_wp2;go_ret;exact ⟨ret_bool HF.out.symm,hB⟩
   | false =>
    rw [Bool.false_or] at HN;go_wp2;go_roundw
    case rel => exact ⟨i + 1,by omega,by go_num,HN,hB⟩
    case measure => simp [intOf];omega
  ·have hd:decide ((i:Int) < (l.length:Int)) = false:=decide_eq_false (by omega)
   have HF:Hid (T = decide (4 < l.length)):=by show _ = _;rw [HG.out,HI.out,any_end (by omega),Bool.false_or]
   have hq:decide ((4:Int) < (l.length:Int)) = decide (4 < l.length):=decide_eq_decide.2 (by omega);go_wp2;go_ret;exact ⟨ret_bool (by first | rw [HF.out] | rw [HF.out,hq]),hb⟩
def sameMs:List OMod→List OMod→Bool
 | [],[] => true
 | x :: l,y :: m => sameM x y && sameMs l m
 | _,_ => false
theorem sameMs_iff:∀ {l m:List OMod},sameMs l m = true↔l = m
 | [],[] => by simp [sameMs]
 | [],b :: s => by simp [sameMs]
 | a :: r,[] => by simp [sameMs]
 | a :: r,b :: s => by simp [sameMs,sameM_iff,sameMs_iff]
theorem sameMs_len {l m:List OMod} (h:l.length≠m.length):sameMs l m = false:=by
 cases e:sameMs l m with
 | false => rfl
 | true => exact absurd (congrArg List.length (sameMs_iff.1 e)) h
theorem sameMs_at {l m:List OMod} {i:Nat} {x y:OMod} (hx:l[i]? = some x) (hy:m[i]? = some y):sameMs (l.drop i) (m.drop i) = (sameM x y && sameMs (l.drop (i + 1)) (m.drop (i + 1))):=by
 obtain ⟨h1,e1⟩:=List.getElem?_eq_some_iff.1 hx;obtain ⟨h2,e2⟩:=List.getElem?_eq_some_iff.1 hy;rw [List.drop_eq_getElem_cons h1,List.drop_eq_getElem_cons h2,sameMs,e1,e2]
theorem sameMs_end {l m:List OMod} {i:Nat} (hl:l.length≤i) (hm:m.length≤i):sameMs (l.drop i) (m.drop i) = true:=by
 rw [List.drop_eq_nil_of_le hl,List.drop_eq_nil_of_le hm,sameMs]
set_option maxRecDepth 100000 in
set_option maxHeartbeats 8000000 in
theorem r24SameMods_any (l m:List OMod) (a b:Option Addr) (c d:Nat) (w:World) (hl:Reads w [] (modsT l) (.slice a l.length c)) (hm:Reads w [] (modsT m) (.slice b m.length d)) (hs:∀ m∈l,(∀ x∈m.decls,x.names.length≤1000000∧nodesN x.body≤1000000)∧m.uses.length≤1000000∧m.decls.length≤1000000) (hn:l.length≤1000000) :
  Calls Tryz.prog 19 #[.slice a l.length c,.slice b m.length d] w fun e w' => e = .returned (.bool (sameMs l m))∧Below w.heap.size w w':=by
 have HL:=lH hl;have HM:=lH hm;have HS:=lH hs;have HE:Hid (sameMs l m = sameMs (l.drop 0) (m.drop 0)):=rfl;have HLEN:=lH (sameMs_len (l:=l) (m:=m));clear hl hm hs;generalize sameMs l m = T at *
 by_cases hlen:l.length = m.length
 rotate_left
 ·have q1:((l.length:Int) != (m.length:Int)) = true:=bne_iff_ne.2 (by omega)
  have HF:=lH (HLEN.out hlen);clear hlen HLEN
  go_enter Tryz.func19,Tryz.ntmps19
  go_wp2;go_ret;exact ⟨ret_bool HF.out.symm,qrefl _⟩
 have q1:((l.length:Int) != (m.length:Int)) = false:=by rw [hlen];simp
 have HLE:=lH hlen;clear hlen HLEN
 go_enter Tryz.func19,Tryz.ntmps19
 go_wp2
 go_loopw [5] (fun iv wr => ∃ i:Nat,i≤l.length∧iv = .int .i64 i∧Hid (T = sameMs (l.drop i) (m.drop i))∧Below w.heap.size w wr) (fun iv _ => l.length - (intOf iv).toNat)
 case atStart => exact ⟨0,Nat.zero_le _,rfl,HE,qrefl _⟩
 case round =>
  obtain ⟨i,hil,rfl,HI,hb⟩:=hrel
  by_cases hi:i < l.length
  ·have hd:decide ((i:Int) < (l.length:Int)) = true:=decide_eq_true (by omega)
   have hi2:i < m.length:=by rw [← HLE.out];exact hi
   have hir:(i:Int) < (l.length:Int):=by omega
   have hir2:(i:Int) < (m.length:Int):=by omega
   obtain ⟨x,hx⟩:∃ x,l[i]? = some x:=⟨_,List.getElem?_eq_getElem hi⟩;obtain ⟨y,hy⟩:∃ y,m[i]? = some y:=⟨_,List.getElem?_eq_getElem hi2⟩;obtain ⟨b1,o1,xo,xc,xf,xd,rfl,hb1,x0,x1,x2,p1,p2,hxu,p3,p4,hxd⟩:=mods_elem (HL.out.below hb) hx;obtain ⟨b2,o2,yo,yc,yf,yd,rfl,hb2,y0,y1,y2,r1,r2,hyu,r3,r4,hyd⟩:=mods_elem (HM.out.below hb) hy;have hxi:ModIn wr [] x xo xc xf xd:=⟨hxu.out,hxd.out,p1,p2,p3,p4⟩;have hyi:ModIn wr [] y yo yc yf yd:=⟨hyu.out,hyd.out,r1,r2,r3,r4⟩;have hsx:=HS.out x (List.mem_of_getElem? hx)
   have HC:=lH (fun w' (h':Below wr.heap.size wr w') => r24Same_any x y xo xf yo yf xc xd yc yd w' (hxi.below h') (hyi.below h') hsx.1 hsx.2.1 hsx.2.2);have HN:=lH (HI.out.trans (sameMs_at hx hy));clear hxi hyi hsx HI hx hy hxu hxd hyu hyd p1 p2 p3 p4 r1 r2 r3 r4;unfold modV at *;generalize sameM x y = r at *
   have SW:Hid (∀ W:World,Below wr.heap.size wr W→(b1 < W.heap.size∧b2 < W.heap.size∧W.cell? ⟨b1,o1 + i * 3,none⟩ = some (.string x.label)∧W.cell? ⟨b1,o1 + i * 3 + 1,none⟩ = some (.slice xo x.uses.length xc)∧W.cell? ⟨b1,o1 + i * 3 + 2,none⟩ = some (.slice xf x.decls.length xd)∧W.cell? ⟨b2,o2 + i * 3,none⟩ = some (.string y.label)∧W.cell? ⟨b2,o2 + i * 3 + 1,none⟩ = some (.slice yo y.uses.length yc)∧W.cell? ⟨b2,o2 + i * 3 + 2,none⟩ = some (.slice yf y.decls.length yd))):=lH (fun W hW => ⟨Nat.lt_of_lt_of_le hb1 hW.size,Nat.lt_of_lt_of_le hb2 hW.size,(hW.cell (p:=⟨b1,_,none⟩) hb1).trans x0,(hW.cell (p:=⟨b1,_,none⟩) hb1).trans x1,(hW.cell (p:=⟨b1,_,none⟩) hb1).trans x2,(hW.cell (p:=⟨b2,_,none⟩) hb2).trans y0,(hW.cell (p:=⟨b2,_,none⟩) hb2).trans y1,(hW.cell (p:=⟨b2,_,none⟩) hb2).trans y2⟩)
   have hdr:Below wr.heap.size wr wr.drew:=(Mod.refl [] wr).drew.below;clear x0 x1 x2 y0 y1 y2;go_upto_region 6 with (fail)
   go_cut [26] from 11 to 26 (fun v wx => v = .bool (!r)∧Below wr.heap.size wr wx)
   case first =>
    refine wp_region_noPanic (region_lex (fun W:World => b1 < W.heap.size∧b2 < W.heap.size∧W.cell? ⟨b1,o1 + i * 3,none⟩ = some (.string x.label)∧W.cell? ⟨b1,o1 + i * 3 + 1,none⟩ = some (.slice xo x.uses.length xc)∧W.cell? ⟨b1,o1 + i * 3 + 2,none⟩ = some (.slice xf x.decls.length xd)∧W.cell? ⟨b2,o2 + i * 3,none⟩ = some (.string y.label)∧W.cell? ⟨b2,o2 + i * 3 + 1,none⟩ = some (.slice yo y.uses.length yc)∧W.cell? ⟨b2,o2 + i * 3 + 2,none⟩ = some (.slice yf y.decls.length yd)) [true,true,true,true,true,true,true,true,false,true] mixedK (by kernel_rfl) (fun _ _ _ _ _ h => h) (SW.out _ hdr) (fun hHeld => ?_))
    iterate 8 (first | (refine lex_skip (by rfl) ?_;(try simp only [Act.put,List.setIfInBounds_toArray,List.set_cons_zero,List.set_cons_succ])) | (refine lex_take (v:=?_) (by rfl) ?_ ?_;rotate_left;(focus (intro wq hSw;(try dsimp only at hSw);go_simp;(try with_reducible rfl)));(try simp only [Act.put,List.setIfInBounds_toArray,List.set_cons_zero,List.set_cons_succ])))
    clear hHeld;generalize wr.drew = wd at *
    (refine lex_do (by rfl) (fun K hK => ?_);go_simp)
    refine (HC.out _ hdr).mono ?_;rintro r w3 ⟨rfl,hb3⟩
    (try go_simp)
    have hb4:=qtrans hdr hb3;refine hK.out _ _ (SW.out _ hb4) (fun _ => ?_);clear hK K;(try simp only [Act.put,List.setIfInBounds_toArray,List.set_cons_zero,List.set_cons_succ])
    (first | (refine lex_skip (by rfl) ?_;(try simp only [Act.put,List.setIfInBounds_toArray,List.set_cons_zero,List.set_cons_succ])) | (refine lex_take (v:=?_) (by rfl) ?_ ?_;rotate_left;(focus (intro wq hSw;(try dsimp only at hSw);go_simp;(try with_reducible rfl)));(try simp only [Act.put,List.setIfInBounds_toArray,List.set_cons_zero,List.set_cons_succ])))
    refine lex_end ?_;refine NoPanic.normal ?_
    (try go_wp2)
    go_meet
    case rel => exact ⟨rfl,hb4⟩
   case rest =>
   obtain ⟨rfl,hb4⟩:=hcut;have hB4:=hb.trans (hb4.mono hb.size);clear SW HC hdr
   cases r with
   | true =>
    rw [Bool.true_and] at HN;simp only [Bool.not_true]
    go_wp2;go_roundw
    case rel => exact ⟨i + 1,by omega,by go_num,HN,hB4⟩
    case measure => simp [intOf];omega
   | false =>
    rw [Bool.false_and] at HN;simp only [Bool.not_false]
    go_wp2;go_ret;exact ⟨ret_bool HN.out.symm,hB4⟩
  ·have hd:decide ((i:Int) < (l.length:Int)) = false:=decide_eq_false (by omega)
   have HF:Hid (T = true):=by show _ = _;rw [HI.out,sameMs_end (by omega) (by rw [← HLE.out];omega)]
   go_wp2;go_ret;exact ⟨ret_bool HF.out.symm,hb⟩
end Go.Proofs.YtdpnfkjafhbndaaGreatDoor
namespace Go.Proofs.YtdpnfkjafhbndaaGreatDoor
open Go.RowKit Go.Shelf
theorem SzL.run':∀ {es:List OEdit} {n:Nat} {l:List OMod},SzL n l→(∀ e∈es,SmE e)→SzL (n + es.length) (runL l es).1
 | [],n,l,h,_ => h
 | e :: r,n,l,h,he => by
  unfold runL;have h1:=he e (List.mem_cons_self ..);split
  case isTrue h0 =>
   split
   ·have:=SzL.run' (h.step (szE_valid h1 h0) h0) (fun q hq => he q (List.mem_cons_of_mem _ hq))
    rw [show n + (e :: r).length = n + 1 + r.length by rw [List.length_cons];omega];exact this
   ·exact (h.step (szE_valid h1 h0) h0).mono (by rw [List.length_cons];omega)
  ·exact h.mono (Nat.le_add_right _ _)
theorem appR_sz {n:Nat} {l:List OMod} {es:List OEdit} (hz:SzB n l) (hs:∀ e∈es,SmE e):SzL (n + es.length) (appR l es).1:=by
 have hnil:SzL (n + es.length) []:=⟨Nat.zero_le _,fun m hm => (List.not_mem_nil hm).elim⟩;unfold appR;split
 case isTrue h0 =>
  split
  ·split
   ·exact (hz.valid h0).run' hs
   ·exact hnil
  ·exact hnil
 ·exact hnil
theorem SzL.three {n:Nat} {l:List OMod} (h:SzL n l) (hn:n≤1000000):∀ m∈l,(∀ x∈m.decls,x.names.length≤1000000∧nodesN x.body≤1000000)∧m.uses.length≤1000000∧m.decls.length≤1000000:=fun m hm =>
 have k:=h.mods m hm
 ⟨fun x hx => ⟨(k.decls x hx).sm.len,(k.decls x hx).nodes⟩,Nat.le_trans k.ulen hn,Nat.le_trans k.dlen hn⟩
theorem smEs_of {l:List OEdit} (hb:∀ x∈l,BigE x) (h:greatEs l = false):(∀ x∈l,SmE x)∧l.length≤20:=by
  unfold greatEs at h
  simp only [Bool.or_eq_false_iff,List.any_eq_false,decide_eq_false_iff_not] at h
  exact ⟨fun x hx => smE_of (hb x hx) (by simpa using h.1 x hx),by omega⟩
theorem eqOk_of {a b:Int} (h:a = 0↔b = 0):((a == 0) == (b == 0)) = true:=by
 by_cases h1:a = 0
 ·rw [h1,h.1 h1];rfl
 ·have h2:¬ b = 0:=fun c => h1 (h.2 c)
  rw [beq_false_of_ne h1,beq_false_of_ne h2];rfl
theorem mods_slice {w:World} {l:List OMod} {v:Value} (h:Reads w [] (modsT l) v):∃ a c,v = .slice a l.length c∧l.length≤c∧c≤9223372036854775807:=mods_val h
end Go.Proofs.YtdpnfkjafhbndaaGreatDoor
namespace Go.Proofs.YtdpnfkjafhbndaaGreatDoor
theorem run_tail {s:OEdit} {es fs:List OEdit} {A B:Ab} (h:∀ C,Run C es B↔Run C fs B):Run A (s :: es) B↔Run A (s :: fs) B:=
 ⟨fun ⟨h0,C,h1,h2⟩ => ⟨h0,C,h1,(h C).1 h2⟩,fun ⟨h0,C,h1,h2⟩ => ⟨h0,C,h1,(h C).2 h2⟩⟩
theorem run_past {x:OEdit}:∀ {S T:List OEdit} {A B:Ab},(∀ s∈S,swapB x s = true)→(Run A (x :: (S ++ T)) B↔Run A (S ++ x :: T) B)
  | [],T,A,B,_ => Iff.rfl
  | s :: S,T,A,B,h => by
    have h1:Run A (x :: s :: (S ++ T)) B↔Run A (s :: x :: (S ++ T)) B:=run_swap (P:=[]) (h s (List.mem_cons_self ..))
    show Run A (x :: s :: (S ++ T)) B↔Run A (s :: (S ++ x :: T)) B
    rw [h1]
    exact run_tail fun C => run_past fun y hy => h y (List.mem_cons_of_mem _ hy)
theorem run_part_first {l:List OEdit} {p:Nat→Bool} (hc:∀ j i,j < i→i < l.length→p j = false→p i = true→swapB (eAt l j) (eAt l i) = true):∀ (k:Nat),k≤l.length→∀ {A B:Ab},Run A (l.take k) B↔Run A (partE l p k ++ partE l (fun j => !p j) k) B
  | 0,_,A,B => by
    have h1:partE l p 0 = []:=rfl
    have h2:partE l (fun j => !p j) 0 = []:=rfl
    rw [h1,h2];exact Iff.rfl
  | k + 1,hk,A,B => by
    have ih:=fun {B:Ab} => run_part_first hc k (by omega) (A:=A) (B:=B)
    have hx:l[k]? = some (eAt l k):=by rw [eAt_of (List.getElem?_eq_getElem (by omega))];exact List.getElem?_eq_getElem (by omega)
    have ht:l.take (k + 1) = l.take k ++ [eAt l k]:=take_nth hx
    have e1:Run A (l.take (k + 1)) B↔Run A (partE l p k ++ (partE l (fun j => !p j) k ++ [eAt l k])) B:=by
      rw [ht,run_append,← List.append_assoc,run_append]
      exact ⟨fun ⟨C,h1,h2⟩ => ⟨C,ih.1 h1,h2⟩,fun ⟨C,h1,h2⟩ => ⟨C,ih.2 h1,h2⟩⟩
    rw [e1,partE_succ,partE_succ]
    cases hp:p k with
    | false =>
      simp only [Bool.not_false,if_true,Bool.false_eq_true,if_false,List.append_nil]
    | true =>
      simp only [Bool.not_true,if_true,Bool.false_eq_true,if_false,List.append_nil]
      rw [List.append_assoc,run_append,run_append]
      have hs:∀ s∈partE l (fun j => !p j) k,swapB (eAt l k) s = true:=fun s hs => by
        unfold partE at hs
        obtain ⟨j,hj,rfl⟩:=List.mem_map.1 hs
        obtain ⟨h1,h2⟩:=List.mem_filter.1 hj
        rw [swapB_symm]
        exact hc j k (List.mem_range.1 h1) (by omega) (by simpa using h2) hp
      have hm:∀ C,Run C (partE l (fun j => !p j) k ++ [eAt l k]) B↔Run C ([eAt l k] ++ partE l (fun j => !p j) k) B:=fun C => by
        have:=run_past (x:=eAt l k) (S:=partE l (fun j => !p j) k) (T:=[]) (A:=C) (B:=B) hs
        rw [List.append_nil] at this
        exact this.symm
      exact ⟨fun ⟨C,h1,h2⟩ => ⟨C,h1,(hm C).1 h2⟩,fun ⟨C,h1,h2⟩ => ⟨C,h1,(hm C).2 h2⟩⟩
theorem partE_all (l:List OEdit) (p:Nat→Bool):∀ k,(partE l p k).length + (partE l (fun j => !p j) k).length = k
 | 0 => rfl
 | k + 1 => by
  have:=partE_all l p k;rw [partE_succ,partE_succ]
  cases hp:p k <;> simp <;> omega
def restG:List OEdit→List OEdit→List OEdit
 | [],_ => []
 | x :: r,[] => x :: restG r []
 | x :: r,y :: s => if sameE x y then restG r s else x :: restG r (y :: s)
theorem restG_pairs:∀ (L:List (OEdit × Bool)),(L.map Prod.fst).Nodup→restG (L.map Prod.fst) ((L.filter Prod.snd).map Prod.fst) = (L.filter fun q => !q.2).map Prod.fst
 | [],_ => rfl
 | (x,true) :: R,h => by
  have ih:=restG_pairs R (List.nodup_cons.1 h).2;show restG (x :: R.map Prod.fst) (x :: (R.filter Prod.snd).map Prod.fst) = (R.filter fun q => !q.2).map Prod.fst
  rw [restG,if_pos (sameE_iff.2 rfl)];exact ih
 | (x,false) :: R,h => by
  obtain ⟨h1,h2⟩:=List.nodup_cons.1 h;have ih:=restG_pairs R h2;show restG (x :: R.map Prod.fst) ((R.filter Prod.snd).map Prod.fst) = x :: (R.filter fun q => !q.2).map Prod.fst
  rw [← ih]
  cases hs:(R.filter Prod.snd).map Prod.fst with
  | nil => rw [restG]
  | cons y s =>
   have hy:y∈R.map Prod.fst:=by
    have:y∈(R.filter Prod.snd).map Prod.fst:=by rw [hs];exact List.mem_cons_self ..
    obtain ⟨q,hq,rfl⟩:=List.mem_map.1 this;exact List.mem_map.2 ⟨q,(List.mem_filter.1 hq).1,rfl⟩
   rw [restG,if_neg fun c => h1 (by rw [sameE_iff.1 c];exact hy)]
theorem map_eAt (l:List OEdit):(List.range l.length).map (eAt l) = l:=by
 apply List.ext_getElem?
 intro i;rw [List.getElem?_map]
 rcases Nat.lt_or_ge i l.length with h | h
 ·rw [List.getElem?_range h,Option.map_some,eAt_of (List.getElem?_eq_getElem h),List.getElem?_eq_getElem h]
 ·rw [List.getElem?_eq_none (by rw [List.length_range];exact h),List.getElem?_eq_none h];rfl
theorem restG_part {l:List OEdit} (p:Nat→Bool) (hn:l.Nodup):restG l (partE l p l.length) = partE l (fun j => !p j) l.length:=by
 have h:=restG_pairs ((List.range l.length).map fun k => (eAt l k,p k));have e0:((List.range l.length).map fun k => (eAt l k,p k)).map Prod.fst = l:=by rw [List.map_map];exact map_eAt l
 rw [e0] at h;have h:=h hn;rw [List.filter_map,List.filter_map,List.map_map,List.map_map] at h;exact h
def twiceB (l:List OEdit):Bool:=(List.range l.length).any fun i => (List.range i).any fun k => sameE (eAt l i) (eAt l k)
theorem nodup_of {l:List OEdit} (h:twiceB l = false):l.Nodup:=by
 unfold twiceB at h;rw [List.any_eq_false] at h;refine List.pairwise_iff_getElem.2 fun i j hi hj hij c => ?_;have h1:=h j (List.mem_range.2 hj);rw [Bool.not_eq_true,List.any_eq_false] at h1;have h2:=h1 i (List.mem_range.2 hij);rw [eAt_of (List.getElem?_eq_getElem hj),eAt_of (List.getElem?_eq_getElem hi)] at h2;exact h2 (sameE_iff.2 c.symm)
structure WkM (m:OMod):Prop where
 label:labelS m.label = true
 use:∀ s∈m.uses,labelS s = true∧nmS (aliasS s) = true∧s≠m.label
 srt:SrtM m
 decl:∀ d∈m.decls,declErr m.label d = 0
def DupF (l:List ByteArray):Prop:=l.Pairwise fun a b => (aliasS a).toList≠(aliasS b).toList
theorem nz_either {f:Nat→Int} {n:Nat} {P:Int→Prop} (h0:P 0) (h:∀ k,k < n→P (f k)):P (nzFrom f n 0):=by
 unfold nzFrom
 have:∀ L:List Int,(∀ x∈L,P x)→P (firstNZ L):=fun L => by
  induction L with
  | nil => intro _;exact h0
  | cons x r ih =>
   intro hx;rw [firstNZ];split
   ·exact ih fun y hy => hx y (List.mem_cons_of_mem _ hy)
   ·exact hx x (List.mem_cons_self ..)
 refine this _ fun x hx => ?_;obtain ⟨k,hk,rfl⟩:=List.mem_map.1 hx;exact h k (List.mem_range.1 (List.mem_of_mem_drop hk))
theorem use_wk {label:ByteArray} {l:List ByteArray} (h:∀ s∈l,labelS s = true∧nmS (aliasS s) = true∧s≠label) {i:Nat} (hi:i < l.length):useErr label l i = if dupB l i then 7 else 0:=by
 obtain ⟨h1,h2,h3⟩:=h _ (List.getElem_mem hi);unfold useErr;rw [sAt_some (List.getElem?_eq_getElem hi),if_pos h2];split
 ·rfl
 ·rw [if_neg]
  intro c;rw [tl,tl] at c;exact h3 (ba_eq (by simpa using c))
theorem dup_free {l:List ByteArray}:(∀ i,i < l.length→dupB l i = false)↔DupF l:=by
 unfold DupF;rw [List.pairwise_iff_getElem]
 constructor
 ·intro h i j hi hj hij c
  have h1:=h j hj;unfold dupB at h1;rw [List.any_eq_false] at h1;have h2:=h1 i (List.mem_range.2 hij);unfold aliasEq at h2;rw [sAt_some (List.getElem?_eq_getElem hi),sAt_some (List.getElem?_eq_getElem hj)] at h2;exact h2 (by rw [c];simp)
 ·intro h j hj
  unfold dupB;rw [List.any_eq_false];intro i hi;have hij:=List.mem_range.1 hi;unfold aliasEq;rw [sAt_some (List.getElem?_eq_getElem (show i < l.length by omega)),sAt_some (List.getElem?_eq_getElem hj)]
  simpa using h i j (by omega) hj hij
theorem wk_err {m:OMod} (W:WkM m) (hd:m.decls.length≤100):modErr m = 0∨modErr m = 7∨modErr m = 4:=by
  unfold modErr
  rw [if_pos W.label]
  by_cases h20:m.uses.length≤20
  · rw [if_pos (usesErr_zero.2 ⟨h20,fun s hs => (W.use s hs).1,W.srt.uses⟩)]
    have hu:nzFrom (useErr m.label m.uses) m.uses.length 0 = 0∨nzFrom (useErr m.label m.uses) m.uses.length 0 = 7:=
      nz_either (P:=fun x => x = 0∨x = 7) (.inl rfl) fun k hk => by
        rw [use_wk W.use hk]
        split
        · exact .inr rfl
        · exact .inl rfl
    rcases hu with hu | hu
    · rw [if_pos hu,if_neg (by omega),declsAt_zero.2 ⟨W.decl,W.srt.decls⟩];exact .inl rfl
    · rw [if_neg (by rw [hu];decide),hu];exact .inr (.inl rfl)
  · have:usesErr m.uses = 4:=by unfold usesErr;rw [if_pos (by omega)]
    rw [if_neg (by rw [this];decide),this];exact .inr (.inr rfl)
theorem wk_fine {m:OMod} (W:WkM m) (hd:m.decls.length≤100) (hu:m.uses.length≤20) (hf:DupF m.uses):modErr m = 0:=
 modErr_zero.2 ⟨W.label,W.srt.uses,hu,fun s hs => (W.use s hs).1,fun i hi => by rw [use_wk W.use hi,dup_free.2 hf i hi];rfl,hd,W.srt.decls,W.decl⟩
theorem wk_of {m:OMod} (V:ValM m):WkM m:=⟨V.label,fun _ hs => use_ok V hs,V.srt,V.decl⟩
theorem dup_of {m:OMod} (V:ValM m):DupF m.uses:=dup_free.1 fun i hi => by
 have h:=V.uerr i hi;rw [use_wk (fun _ hs => use_ok V hs) hi] at h
 cases hd:dupB m.uses i with
 | false => rfl
 | true => rw [hd] at h;exact absurd h (by decide)
theorem test_val {e:OEdit} (h:editErr e = 0) {m:OMod} (hm:m∈testsOf e):ValM m:=modErr_zero.1 ((editErr_zero.1 h).2.2 m hm)
theorem edit_use {e:OEdit} (h:editErr e = 0) (h3:e.kind = 3):labelS e.text = true∧nmS (aliasS e.text) = true∧e.text≠e.pack:=by
 have V:=test_val h (m:=⟨e.pack,[e.text],[]⟩) (by unfold testsOf;rw [if_neg (by omega),if_pos (by omega)];exact List.mem_singleton.2 rfl);exact use_ok V (List.mem_singleton.2 rfl)
theorem edit_new {e:OEdit} (h:editErr e = 0) (h1:e.kind = 1):labelS e.pack = true:=
 (test_val h (m:=⟨e.pack,[],[]⟩) (by unfold testsOf;rw [if_pos (by omega)];exact List.mem_singleton.2 rfl)).label
theorem edit_decl {e:OEdit} (h:editErr e = 0) (h5:5≤e.kind) (h6:e.kind≠6):declErr e.pack (compD e.kind (dAt e.fresh 0)) = 0:=by
 have hm:=dAt_mem (edit_fresh h h5 h6);have V:=test_val h (m:=⟨e.pack,[],[compD e.kind (dAt e.fresh 0)]⟩) (by unfold testsOf;rw [if_neg (by omega),if_neg (by omega)];exact List.mem_map.2 ⟨_,List.mem_append_right _ hm,rfl⟩);exact V.decl _ (List.mem_singleton.2 rfl)
theorem decl_set {p:ByteArray} {k:Int} (hk:k = 7∨k = 8∨k = 9) {d f:ODecl} (hd:declErr p d = 0) (hf:declErr p (compD k f) = 0):declErr p (setPart k d f) = 0:=by
 obtain ⟨a1,a2,a3,a4,a5,a6,a7,a8⟩:=declErr_parts.1 hd;obtain ⟨b1,b2,b3,b4,b5,b6,b7,b8⟩:=declErr_parts.1 hf;refine declErr_parts.2 ?_
 rcases hk with rfl | rfl | rfl
 ·exact ⟨a1,a2,a3,b4,a5,a6,a7,a8⟩
 ·exact ⟨a1,a2,a3,a4,b5,b6,b7,b8⟩
 ·exact ⟨a1,a2,b3,a4,a5,a6,a7,a8⟩
theorem dupF_del {l:List ByteArray} (h:DupF l) (p:Nat):DupF (delAt l p):=by
 unfold DupF delAt at *
 exact h.sublist (by
  conv => rhs;rw [← List.take_append_drop p l]
  exact List.Sublist.append_left (List.drop_sublist_drop_left l (Nat.le_succ p)) _)
theorem wk_in {m:OMod} {e:OEdit} (W:WkM m) (h0:editErr e = 0) (h3:3≤e.kind) (hp:e.pack = m.label) (hz:(inMod m e).2 = 0):WkM (inMod m e).1∧(e.kind≠3→m.uses.length≤20∧DupF m.uses→(inMod m e).1.uses.length≤20∧DupF (inMod m e).1.uses):=by
  have hk:=(editErr_fits h0).1
  have hS:SrtM (inMod m e).1:=by
    rcases inMod_key W.srt h3 hk.2 with ⟨_,_,_,_,h,_⟩ | ⟨_,h⟩
    · exact h
    · exact absurd hz h
  have hl:(inMod m e).1.label = m.label:=by
    rcases inMod_key W.srt h3 hk.2 with ⟨_,_,_,h,_⟩ | ⟨_,h⟩
    · exact h
    · exact absurd hz h
  suffices (∀ s∈(inMod m e).1.uses,labelS s = true∧nmS (aliasS s) = true∧s≠m.label)∧(∀ d∈(inMod m e).1.decls,declErr m.label d = 0)∧(e.kind≠3→m.uses.length≤20∧DupF m.uses→(inMod m e).1.uses.length≤20∧DupF (inMod m e).1.uses) by
    obtain ⟨h1,h2,h4⟩:=this
    exact ⟨⟨by rw [hl];exact W.label,by rw [hl];exact h1,hS,by rw [hl];exact h2⟩,h4⟩
  clear hS hl
  obtain ⟨q,hq⟩:∃ q,inMod m e = q:=⟨_,rfl⟩
  rw [hq] at hz ⊢
  unfold inMod at hq
  split at hq
  · rename_i k3
    split at hq
    · subst hq;exact absurd hz (by simp)
    · subst hq
      refine ⟨fun s hs => ?_,W.decl,fun c => absurd k3 c⟩
      rcases mem_insAt hs with rfl | q
      · rw [← hp];exact edit_use h0 k3
      · exact W.use s q
  split at hq
  · split at hq
    · subst hq
      exact ⟨fun s hs => W.use s (mem_delAt hs),W.decl,fun _ h => ⟨Nat.le_trans (delAt_le _ _) h.1,dupF_del h.2 _⟩⟩
    · subst hq;exact absurd hz (by simp)
  split at hq
  · rename_i k5
    split at hq
    · subst hq;exact absurd hz (by simp)
    · subst hq
      refine ⟨W.use,fun d hd => ?_,fun _ h => h⟩
      rcases mem_insAt hd with rfl | q
      · have:=edit_decl h0 (by omega) (by omega)
        rw [compD_low (by omega),hp] at this
        exact this
      · exact W.decl d q
  · rename_i k3 k4 k5
    split at hq
    · subst hq;exact absurd hz (by simp)
    · rename_i d hd
      have hdm:=(look_in so_I hd).1
      split at hq
      · split at hq
        · subst hq
          exact ⟨W.use,fun x hx => W.decl x (mem_delAt hx),fun _ h => h⟩
        · rename_i k6
          subst hq
          refine ⟨W.use,fun x hx => ?_,fun _ h => h⟩
          rcases List.mem_or_eq_of_mem_set hx with q | rfl
          · exact W.decl x q
          · have:=edit_decl h0 (by omega) k6
            rw [hp] at this
            exact decl_set (by omega) (W.decl d hdm) this
      · subst hq;exact absurd hz (by simp)
def addsB (es:List OEdit):Bool:=es.any fun e => e.kind == 3
def InvL (b:Bool) (l:List OMod):Prop:=∀ m∈l,WkM m∧(b = false→m.uses.length≤20∧DupF m.uses)
theorem inv_one {b:Bool} {l:List OMod} {e:OEdit} (h:InvL b l) (h0:editErr e = 0) (hb:b = false→e.kind≠3) (hz:(oneL l e).2 = 0):InvL b (oneL l e).1:=by
 have hk:=(editErr_fits h0).1;obtain ⟨q,hq⟩:∃ q,oneL l e = q:=⟨_,rfl⟩;rw [hq] at hz ⊢;unfold oneL at hq;split at hq
 ·split at hq
  ·rename_i k1
   subst hq;intro m hm
   rcases mem_insAt hm with rfl | q
   ·exact ⟨⟨edit_new h0 k1,fun s hs => (List.not_mem_nil hs).elim,⟨List.Pairwise.nil,List.Pairwise.nil⟩,fun d hd => (List.not_mem_nil hd).elim⟩,fun _ => ⟨Nat.zero_le _,List.Pairwise.nil⟩⟩
   ·exact h m q
  ·subst hq;exact absurd hz (by simp)
 ·rename_i m hm
  obtain ⟨hml,hmp⟩:=srt_mem hm;split at hq
  ·subst hq;exact absurd hz (by simp)
  split at hq
  ·split at hq
   ·subst hq
    exact fun x hx => h x (mem_delAt hx)
   ·subst hq;exact absurd hz (by simp)
  ·subst hq
   intro x hx
   rcases List.mem_or_eq_of_mem_set hx with q | rfl
   ·exact h x q
   ·obtain ⟨w1,w2⟩:=wk_in (h m hml).1 h0 (by omega) hmp.symm hz
    exact ⟨w1,fun c => w2 (hb c) ((h m hml).2 c)⟩
theorem inv_run {b:Bool}:∀ {es:List OEdit} {l:List OMod},InvL b l→(b = false→addsB es = false)→(runL l es).2 = 0→InvL b (runL l es).1
 | [],l,h,_,_ => h
 | e :: r,l,h,hb,hz => by
  have hb1:b = false→e.kind≠3:=fun c => by
   have:=hb c;unfold addsB at this;rw [List.any_cons,Bool.or_eq_false_iff] at this
   simpa using this.1
  have hb2:b = false→addsB r = false:=fun c => by
   have:=hb c;unfold addsB at this;rw [List.any_cons,Bool.or_eq_false_iff] at this;exact this.2
  obtain ⟨q,hq⟩:∃ q,runL l (e :: r) = q:=⟨_,rfl⟩;rw [hq] at hz ⊢;unfold runL at hq;split at hq
  ·rename_i h0
   split at hq
   ·rename_i h1
    subst hq;exact inv_run (inv_one h h0 hb1 h1) hb2 hz
   ·rename_i h1
    subst hq;exact absurd hz h1
  ·rename_i h0
   subst hq;exact absurd hz h0
theorem some_err {n:Nat} {l:List OMod} {es:List OEdit} (hz:SzB n l) (hs:∀ e∈es,SmE e) (hn:n + es.length≤100) (hl:modsErr l = 0) (hr:(runL l es).2 = 0):(appR l es).2 = 0∨(((appR l es).2 = 7∨(appR l es).2 = 4)∧addsB es = true):=by
  have hv:∀ m∈l,ValM m:=fun m hm => modErr_zero.1 (test_pos (mods_test hl) m hm)
  have hI:InvL (addsB es) (runL l es).1:=inv_run (fun m hm => ⟨wk_of (hv m hm),fun _ => ⟨(hv m hm).ulen,dup_of (hv m hm)⟩⟩) (fun c => c) hr
  have hZ:=(hz.valid hl).run' hs
  have hd:∀ m∈(runL l es).1,m.decls.length≤100:=fun m hm => Nat.le_trans (hZ.mods m hm).dlen hn
  unfold appR
  rw [if_pos hl,if_pos hr]
  split
  · exact .inl rfl
  · rename_i ht
    refine .inr ?_
    cases hb:addsB es with
    | true =>
      refine ⟨?_,rfl⟩
      have:testErr (runL l es).1 = 0∨testErr (runL l es).1 = 7∨testErr (runL l es).1 = 4:=
        nz_either (P:=fun x => x = 0∨x = 7∨x = 4) (.inl rfl) fun k hk => by
          rw [mAt_of (List.getElem?_eq_getElem hk)]
          exact wk_err (hI _ (List.getElem_mem hk)).1 (hd _ (List.getElem_mem hk))
      rcases this with h | h
      · exact absurd h ht
      · exact h
    | false =>
      exfalso
      rw [hb] at hI
      exact ht (testErr_zero.2 fun m hm => wk_fine (hI m hm).1 (hd m hm) ((hI m hm).2 rfl).1 ((hI m hm).2 rfl).2)
theorem leads_plain {n:Nat} {l:List OMod} {es:List OEdit} {p:Nat→Bool} (hz:SzB n l) (hs:∀ e∈es,SmE e) (hn:n + es.length≤100) (hd:es.Nodup) (hc:∀ j i,j < i→i < es.length→p j = false→p i = true→swapB (eAt es j) (eAt es i) = true) (h0:(appR l es).2 = 0) :
    let some:=partE es p es.length
    (some ++ restG es some).length = es.length∧(appR l (some ++ restG es some)).2 = 0∧(appR l es).1 = (appR l (some ++ restG es some)).1∧((appR l some).2 = 0∨(((appR l some).2 = 7∨(appR l some).2 = 4)∧addsB some = true)):=by
  intro some
  have hr:restG es some = partE es (fun j => !p j) es.length:=restG_part p hd
  have hrun:∀ A B,Run A es B↔Run A (some ++ restG es some) B:=fun A B => by
    have:=run_part_first (p:=p) hc es.length (Nat.le_refl _) (A:=A) (B:=B)
    rw [List.take_length] at this
    rw [hr];exact this
  obtain ⟨h1,h2⟩:=app_same (l:=l) hrun
  have hok:=appR_ok.1 (appR_pair h0)
  have hsl:some.length≤es.length:=partE_len _ _ _
  refine ⟨by rw [List.length_append,hr];exact partE_all _ _ _,h1.1 h0,h2,some_err hz (partE_mem hs) (by omega) hok.1 ?_⟩
  have hrl:=(runL_iff (srt_of hok.1) (runL_srt (srt_of hok.1) hok.2.1)).2 hok.2.1
  rw [hrun,run_append] at hrl
  obtain ⟨C,hC,_⟩:=hrl
  rcases runL_key (es:=some) (srt_of hok.1) with ⟨h,_⟩ | ⟨_,h⟩
  · exact h
  · exact absurd hC (h C)
theorem pick_closed {es:List OEdit} {i:Nat} (hi:i < es.length) (hE:∀ e∈es,editErr e = 0):∀ j k,j < k→k < es.length→(needB es i).getD j false = false→(needB es i).getD k false = true→swapB (eAt es j) (eAt es k) = true:=by
 intro j k hjk hk h1 h2
 have hd:dep es j k = false:=by
  cases hd:dep es j k with
  | false => rfl
  | true =>
   have h3:(needB es i).getD j false = true:=by
    rcases (needB_iff hi k).1 h2 with rfl | hR
    ·exact (needB_iff hi j).2 (.inr (Reach.step.2 ⟨hjk,.inl hd⟩))
    ·exact (needB_iff hi j).2 (.inr (Reach.step.2 ⟨Nat.lt_trans hjk hR.lt,.inr ⟨k,hjk,hR.lt,hR,hd⟩⟩))
   rw [h1] at h3;cases h3
 have:=swap_dep hE (show j < es.length by omega) hk;rw [hd] at this
 simpa using this
theorem drop_closed {es:List OEdit} {i:Nat} (_:i < es.length) (hE:∀ e∈es,editErr e = 0):∀ j k,j < k→k < es.length→keepB es i j = false→keepB es i k = true→swapB (eAt es j) (eAt es k) = true:=by
 intro j k hjk hk h1 h2
 have hd:dep es j k = false:=by
  cases hd:dep es j k with
  | false => rfl
  | true =>
   unfold keepB at h1 h2
   have h3:(needB es k).getD i false = true:=by
    have hRj:Reach es k j:=Reach.step.2 ⟨hjk,.inl hd⟩
    rcases (needB_iff (show j < es.length by omega) i).1 (by simpa using h1) with rfl | hR
    ·exact (needB_iff hk _).2 (.inr hRj)
    ·exact (needB_iff hk i).2 (.inr (hR.trans hRj))
   rw [h3] at h2;cases h2
 have:=swap_dep hE (show j < es.length by omega) hk;rw [hd] at this
 simpa using this
theorem part_pos {es:List OEdit} {p:Nat→Bool} {i:Nat} (hi:i < es.length) (hp:p i = true):0 < (partE es p es.length).length:=by
 unfold partE;rw [List.length_map];exact List.length_pos_of_mem (List.mem_filter.2 ⟨List.mem_range.2 hi,hp⟩)
theorem part_less {es:List OEdit} {p:Nat→Bool} {i:Nat} (hi:i < es.length) (hp:p i = false):(partE es p es.length).length < es.length:=by
 have h1:=partE_all es p es.length;have h2:=part_pos (p:=fun j => !p j) hi (by simp [hp]);omega
end Go.Proofs.YtdpnfkjafhbndaaGreatDoor
namespace Go.Proofs.YtdpnfkjafhbndaaGreatDoor
open Go.RowKit Go.Shelf
attribute [local go_sem] Oper.semAt_some
set_option maxRecDepth 100000 in
set_option maxHeartbeats 4000000 in
theorem adds35_any (l:List OEdit) (a:Option Addr) (c:Nat) (w:World) (hl:Reads w [] (editsT l) (.slice a l.length c)) (hn:l.length≤1000000) :
  Calls Tryz.prog 68 #[.slice a l.length c] w fun r w' => r = .returned (.bool (addsB l))∧Below w.heap.size w w':=by
 have HL:=lH hl;clear hl;have HE:Hid (addsB l = (l.drop 0).any fun e => e.kind == 3):=rfl;generalize addsB l = T at *
 go_enter Tryz.func68,Tryz.ntmps68
 go_wp2
 go_loopw [7] (fun iv wr => ∃ i:Nat,i≤l.length∧iv = .int .i64 i∧Hid (T = (l.drop i).any fun e => e.kind == 3)∧Below w.heap.size w wr) (fun iv _ => l.length - (intOf iv).toNat)
 case atStart => exact ⟨0,Nat.zero_le _,rfl,HE,qrefl _⟩
 case round =>
  obtain ⟨i,hil,rfl,HI,hb⟩:=hrel
  by_cases hi:i < l.length
  ·have hd:decide ((i:Int) < (l.length:Int)) = true:=decide_eq_true (by omega)
   have hir:(i:Int) < (l.length:Int):=by omega
   obtain ⟨e,he⟩:∃ e,l[i]? = some e:=⟨_,List.getElem?_eq_getElem hi⟩;obtain ⟨b,o,ao,co,af,cf,rfl,hbl,x0,x1,x2,x3,x4,HED⟩:=cells_edit (HL.out.below hb) he;have HN:=lH (HI.out.trans (any_at (f:=fun e:OEdit => e.kind == 3) he));have hB:=qtrans hb (qalloc wr (.cells #[.int .i64 e.kind,.string e.pack,.string e.text,.slice ao e.old.length co,.slice af e.fresh.length cf] 35));clear HI he HED
   by_cases hk:e.kind = 3
   ·have q1:(e.kind == 3) = true:=by rw [hk];rfl
    have HF:Hid (T = true):=by show _ = _;rw [HN.out];simp only [q1,Bool.true_or]
    clear hk;go_wp2;go_ret;exact ⟨ret_bool HF.out.symm,hB⟩
   ·have q1:(e.kind == 3) = false:=by simp [hk]
    have HF:Hid (T = (l.drop (i + 1)).any fun e => e.kind == 3):=by show _ = _;rw [HN.out];simp only [q1,Bool.false_or]
    clear hk;go_wp2;go_roundw
    case rel => exact ⟨i + 1,by omega,by go_num,HF,hB⟩
    case measure => simp [intOf];omega
  ·have hd:decide ((i:Int) < (l.length:Int)) = false:=decide_eq_false (by omega)
   have HF:Hid (T = false):=by show _ = _;rw [HI.out,any_end (by omega)]
   go_wp2;go_ret;exact ⟨ret_bool HF.out.symm,hb⟩
set_option maxRecDepth 100000 in
set_option maxHeartbeats 8000000 in
theorem twice35_any (l:List OEdit) (a:Option Addr) (c:Nat) (w:World) (hl:Reads w [] (editsT l) (.slice a l.length c)) (hs:∀ x∈l,SmE x) (hn:l.length≤1000000) :
  Calls Tryz.prog 22 #[.slice a l.length c] w fun r w' => r = .returned (.bool (twiceB l))∧Below w.heap.size w w':=by
 have HL:=lH hl;have HS:=lH hs;clear hl hs;obtain ⟨f,hf⟩:∃ f:Nat→Bool,f = fun i => (List.range i).any fun k => sameE (eAt l i) (eAt l k):=⟨_,rfl⟩;have HFF:Hid (∀ i,f i = ((List.range i).drop 0).any fun k => sameE (eAt l i) (eAt l k)):=fun i => by rw [hf];rfl
 have HE:Hid (twiceB l = ((List.range l.length).drop 0).any f):=by show _ = _;rw [hf];rfl
 clear hf;generalize twiceB l = T at *
 go_enter Tryz.func22,Tryz.ntmps22
 go_wp2
 go_loopw [7] (fun iv wr => ∃ i:Nat,i≤l.length∧iv = .int .i64 i∧Hid (T = ((List.range l.length).drop i).any f)∧Below w.heap.size w wr) (fun iv _ => l.length - (intOf iv).toNat)
 case atStart => exact ⟨0,Nat.zero_le _,rfl,HE,qrefl _⟩
 case round =>
  obtain ⟨i,hil,rfl,HI,hbo⟩:=hrel
  by_cases hi:i < l.length
  ·have hd:decide ((i:Int) < (l.length:Int)) = true:=decide_eq_true (by omega)
   have hir:(i:Int) < (l.length:Int):=by omega
   have HN:=lH (HI.out.trans (range_any_at (f:=f) hi));obtain ⟨g,hg⟩:∃ g:Nat→Bool,g = fun k => sameE (eAt l i) (eAt l k):=⟨_,rfl⟩;have HFI:=lH (HFF.out i);rw [← hg] at HFI;have HG:Hid (∀ k,g k = sameE (eAt l i) (eAt l k)):=fun k => by rw [hg]
   obtain ⟨x,hx⟩:∃ x,l[i]? = some x:=⟨_,List.getElem?_eq_getElem hi⟩;have HXX:=lH hx;have HXI:=lH (eAt_of hx);clear HI hg hx;generalize f i = fi at *;generalize wr = wo at *;go_wp2
   go_loopw [11] (fun kv wr => ∃ k:Nat,k≤i∧kv = .int .i64 k∧Hid (fi = ((List.range i).drop k).any g)∧Below w.heap.size w wr) (fun kv _ => i - (intOf kv).toNat)
   case atStart => exact ⟨0,Nat.zero_le _,rfl,HFI,hbo⟩
   case round =>
    obtain ⟨k,hkl,rfl,HK,hb⟩:=hrel
    by_cases hk:k < i
    ·have hd2:decide ((k:Int) < (i:Int)) = true:=decide_eq_true (by omega)
     have hkr:(k:Int) < (l.length:Int):=by omega
     obtain ⟨y,hy⟩:∃ y,l[k]? = some y:=⟨_,List.getElem?_eq_getElem (by omega)⟩;obtain ⟨b1,o1,xo,xc,xf,xd,rfl,hb1,x0,x1,x2,x3,x4,hxi⟩:=cells_edit (HL.out.below hb) HXX.out;obtain ⟨b2,o2,yo,yc,yf,yd,hsame,-,y0,y1,y2,y3,y4,hyi⟩:=cells_edit (HL.out.below hb) hy
     injection hsame with hsame
     injection hsame with hs1 hs2
     subst hs1 hs2;have hsx:=HS.out x (List.mem_of_getElem? HXX.out);have HC:=lH (fun w' (h':Below wr.heap.size wr w') => r34Same_any x y xo xc xf xd yo yc yf yd w' (hxi.out.below h') (hyi.out.below h') hsx);have HN2:=lH (HK.out.trans (range_any_at (f:=g) hk));have hgk:=HG.out k;rw [HXI.out,eAt_of hy] at hgk;rw [hgk] at HN2;clear hxi hyi hsx HK hy hgk;unfold editV at *;generalize sameE x y = r at *
     have SW:Hid (∀ W:World,Below wr.heap.size wr W→(b1 < W.heap.size∧b1 < W.heap.size∧W.cell? ⟨b1,o1 + i * 5,none⟩ = some (.int .i64 x.kind)∧W.cell? ⟨b1,o1 + i * 5 + 1,none⟩ = some (.string x.pack)∧W.cell? ⟨b1,o1 + i * 5 + 2,none⟩ = some (.string x.text)∧W.cell? ⟨b1,o1 + i * 5 + 3,none⟩ = some (.slice xo x.old.length xc)∧W.cell? ⟨b1,o1 + i * 5 + 4,none⟩ = some (.slice xf x.fresh.length xd)∧W.cell? ⟨b1,o1 + k * 5,none⟩ = some (.int .i64 y.kind)∧W.cell? ⟨b1,o1 + k * 5 + 1,none⟩ = some (.string y.pack)∧W.cell? ⟨b1,o1 + k * 5 + 2,none⟩ = some (.string y.text)∧W.cell? ⟨b1,o1 + k * 5 + 3,none⟩ = some (.slice yo y.old.length yc)∧W.cell? ⟨b1,o1 + k * 5 + 4,none⟩ = some (.slice yf y.fresh.length yd))):=lH (fun W hW => ⟨Nat.lt_of_lt_of_le hb1 hW.size,Nat.lt_of_lt_of_le hb1 hW.size,(hW.cell (p:=⟨b1,_,none⟩) hb1).trans x0,(hW.cell (p:=⟨b1,_,none⟩) hb1).trans x1,(hW.cell (p:=⟨b1,_,none⟩) hb1).trans x2,(hW.cell (p:=⟨b1,_,none⟩) hb1).trans x3,(hW.cell (p:=⟨b1,_,none⟩) hb1).trans x4,(hW.cell (p:=⟨b1,_,none⟩) hb1).trans y0,(hW.cell (p:=⟨b1,_,none⟩) hb1).trans y1,(hW.cell (p:=⟨b1,_,none⟩) hb1).trans y2,(hW.cell (p:=⟨b1,_,none⟩) hb1).trans y3,(hW.cell (p:=⟨b1,_,none⟩) hb1).trans y4⟩)
     have hdr:Below wr.heap.size wr wr.drew:=(Mod.refl [] wr).drew.below;clear x0 x1 x2 x3 x4 y0 y1 y2 y3 y4;go_upto_region 7 with (fail)
     go_cut [22] from 12 to 23 (fun v wx => v = .bool r∧Below wr.heap.size wr wx)
     case first =>
      refine wp_region_noPanic (region_lex (fun W:World => b1 < W.heap.size∧b1 < W.heap.size∧W.cell? ⟨b1,o1 + i * 5,none⟩ = some (.int .i64 x.kind)∧W.cell? ⟨b1,o1 + i * 5 + 1,none⟩ = some (.string x.pack)∧W.cell? ⟨b1,o1 + i * 5 + 2,none⟩ = some (.string x.text)∧W.cell? ⟨b1,o1 + i * 5 + 3,none⟩ = some (.slice xo x.old.length xc)∧W.cell? ⟨b1,o1 + i * 5 + 4,none⟩ = some (.slice xf x.fresh.length xd)∧W.cell? ⟨b1,o1 + k * 5,none⟩ = some (.int .i64 y.kind)∧W.cell? ⟨b1,o1 + k * 5 + 1,none⟩ = some (.string y.pack)∧W.cell? ⟨b1,o1 + k * 5 + 2,none⟩ = some (.string y.text)∧W.cell? ⟨b1,o1 + k * 5 + 3,none⟩ = some (.slice yo y.old.length yc)∧W.cell? ⟨b1,o1 + k * 5 + 4,none⟩ = some (.slice yf y.fresh.length yd)) [true,true,true,true,true,true,true,true,false] mixedK (by kernel_rfl) (fun _ _ _ _ _ h => h) (SW.out _ hdr) (fun hHeld => ?_))
      iterate 8 (first | (refine lex_skip (by rfl) ?_;(try simp only [Act.put,List.setIfInBounds_toArray,List.set_cons_zero,List.set_cons_succ])) | (refine lex_take (v:=?_) (by rfl) ?_ ?_;rotate_left;(focus (intro wq hSw;(try dsimp only at hSw);go_simp;(try with_reducible rfl)));(try simp only [Act.put,List.setIfInBounds_toArray,List.set_cons_zero,List.set_cons_succ])))
      clear hHeld;generalize wr.drew = wd at *
      (refine lex_do (by rfl) (fun K hK => ?_);go_simp)
      refine (HC.out _ hdr).mono ?_;rintro r w3 ⟨rfl,hb3⟩
      (try go_simp)
      have hb4:=qtrans hdr hb3;refine hK.out _ _ (SW.out _ hb4) (fun _ => ?_);clear hK K;(try simp only [Act.put,List.setIfInBounds_toArray,List.set_cons_zero,List.set_cons_succ]);refine lex_end ?_;refine NoPanic.normal ?_
      (try go_wp2)
      go_meet
      case rel => exact ⟨rfl,hb4⟩
     case rest =>
     obtain ⟨rfl,hb4⟩:=hcut;have hB4:=hb.trans (hb4.mono hb.size);clear SW HC hdr
     cases r with
     | true =>
      have HF:Hid (T = true):=by show _ = _;rw [HN.out,HN2.out,Bool.true_or,Bool.true_or]
      go_wp2;go_ret;exact ⟨ret_bool HF.out.symm,hB4⟩
     | false =>
      rw [Bool.false_or] at HN2;go_wp2;go_roundw
      case rel => exact ⟨k + 1,by omega,by go_num,HN2,hB4⟩
      case measure => simp [intOf];omega
    ·have hd2:decide ((k:Int) < (i:Int)) = false:=decide_eq_false (by omega)
     have HF:Hid (T = ((List.range l.length).drop (i + 1)).any f):=by show _ = _;rw [HN.out,HK.out,range_any_end (by omega),Bool.false_or]
     go_wp2;go_roundw
     case rel => exact ⟨i + 1,by omega,by go_num,HF,hb⟩
     case measure => simp [intOf];omega
  ·have hd:decide ((i:Int) < (l.length:Int)) = false:=decide_eq_false (by omega)
   have HF:Hid (T = false):=by show _ = _;rw [HI.out,range_any_end (by omega)]
   go_wp2;go_ret;exact ⟨ret_bool HF.out.symm,hbo⟩
theorem owns_eqC {w:World} {B:Nat} {e:TypeId} {s n m:Nat} {v:Value} {xs:List Value} (h:w.ownsRow B e s v n xs) (q:n = m):w.ownsRow B e s v m xs:=q ▸ h
theorem restG_at {l s:List OEdit} {i k:Nat} {x y:OEdit} (hx:l[i]? = some x) (hy:s[k]? = some y):restG (l.drop i) (s.drop k) = if sameE x y then restG (l.drop (i + 1)) (s.drop (k + 1)) else x :: restG (l.drop (i + 1)) (s.drop k):=by
 rw [drop_nth hx,drop_nth hy,restG]
theorem restG_off {l s:List OEdit} {i k:Nat} {x:OEdit} (hx:l[i]? = some x) (hk:s.length≤k):restG (l.drop i) (s.drop k) = x :: restG (l.drop (i + 1)) (s.drop k):=by
 rw [List.drop_eq_nil_of_le hk,drop_nth hx,restG]
theorem snoc_rest {o r:List OEdit} {x:OEdit}:o ++ x :: r = (o ++ [x]) ++ r:=by rw [List.append_assoc];rfl
set_option maxRecDepth 100000 in
set_option maxHeartbeats 8000000 in
theorem Rest_any (l s:List OEdit) (a b:Option Addr) (c d:Nat) (u w:World) (hu:Below u.heap.size u w) (hl:Reads u [] (editsT l) (.slice a l.length c)) (hm:Reads w [] (editsT s) (.slice b s.length d)) (hs:∀ x∈l,SmE x) (hn:l.length≤1000000) (hns:s.length≤1000000) :
  Calls Tryz.prog 67 #[.slice a l.length c,.slice b s.length d] w fun e w' => ∃ v,e = .returned v∧OwnE u w' w.heap.size v (restG l s)∧Below w.heap.size w w':=by
 obtain ⟨i0,z,hi,hz0,hzs,hz1,hz2⟩:=info_parts' infoEdit;have HL:=lH hl;have HM:=lH hm;have HS:=lH hs;have HU:=lH hu;have HN0:Hid (OwnE u (w.alloc (.cells #[] 35)) w.heap.size (.slice (some ⟨w.heap.size,0,none⟩) 0 0) []):=⟨[],World.ownsRow_made w #[] 0 (Nat.le_refl _) (Nat.zero_le _) rfl,ReadsL.nil _ _⟩;have HB0:=lH (qalloc w (.cells #[] 35));have HE:Hid (restG l s = ([]:List OEdit) ++ restG (l.drop 0) (s.drop 0)):=rfl;clear hl hm hs hu;generalize restG l s = T at *
 go_enter Tryz.func67,Tryz.ntmps67
 go_wp2;generalize w.alloc (.cells #[] 35) = w1 at *;obtain ⟨v0,hv0⟩:∃ v,v = Value.slice (some ⟨w.heap.size,0,none⟩) 0 0:=⟨_,rfl⟩;rw [← hv0] at HN0 ⊢;clear hv0
 go_loopw [7,6,5] (fun iv kv ov wr => ∃ (i k:Nat) (out:List OEdit),i≤l.length∧k≤s.length∧iv = .int .i64 i∧kv = .int .i64 k∧Hid (T = out ++ restG (l.drop i) (s.drop k))∧Hid (OwnE u wr w.heap.size ov out∧out.length≤i)∧Below w.heap.size w wr) (fun iv _ _ _ => l.length - (intOf iv).toNat)
 case atStart => exact ⟨0,0,[],Nat.zero_le _,Nat.zero_le _,rfl,rfl,HE,⟨HN0.out,Nat.zero_le _⟩,HB0.out⟩
 case round =>
  obtain ⟨i,k,out,hil,hkl,rfl,rfl,HI,HO,hb⟩:=hrel
  by_cases hir0:i < l.length
  ·have hd:decide ((i:Int) < (l.length:Int)) = true:=decide_eq_true (by omega)
   have hir:(i:Int) < (l.length:Int):=by omega
   obtain ⟨x,hx⟩:∃ x,l[i]? = some x:=⟨_,List.getElem?_eq_getElem hir0⟩;obtain ⟨b1,o1,xo,xc,xf,xd,rfl,hbl1,x0p,x1p,x2p,x3p,x4p,hxi⟩:=cells_edit HL.out hx;have HIN:=hxi;have HX0:=lH x0p;have HX1:=lH x1p;have HX2:=lH x2p;have HX3:=lH x3p;have HX4:=lH x4p;obtain ⟨sa,sc,rfl⟩:=HO.out.1.val;clear x0p x1p x2p x3p x4p hxi
   by_cases hk:k < s.length
   ·have hd2:decide ((k:Int) < (s.length:Int)) = true:=decide_eq_true (by omega)
    have hkr:(k:Int) < (s.length:Int):=by omega
    obtain ⟨y,hy⟩:∃ y,s[k]? = some y:=⟨_,List.getElem?_eq_getElem hk⟩;have x0:=((qtrans HU.out hb).cell (p:=⟨b1,_,none⟩) hbl1).trans HX0.out;have x1:=((qtrans HU.out hb).cell (p:=⟨b1,_,none⟩) hbl1).trans HX1.out;have x2:=((qtrans HU.out hb).cell (p:=⟨b1,_,none⟩) hbl1).trans HX2.out;have x3:=((qtrans HU.out hb).cell (p:=⟨b1,_,none⟩) hbl1).trans HX3.out;have x4:=((qtrans HU.out hb).cell (p:=⟨b1,_,none⟩) hbl1).trans HX4.out;have hb1:b1 < wr.heap.size:=Nat.lt_of_lt_of_le hbl1 (qtrans HU.out hb).size
    obtain ⟨b2,o2,yo,yc,yf,yd,rfl,hb2,y0,y1,y2,y3,y4,hyi⟩:=cells_edit (HM.out.below hb) hy;have hsx:=HS.out x (List.mem_of_getElem? hx);have HC:=lH (fun w' (h':Below wr.heap.size wr w') => r34Same_any x y xo xc xf xd yo yc yf yd w' (HIN.out.below (qtrans (qtrans HU.out hb) h')) (hyi.out.below h') hsx);have HN:=lH (HI.out.trans (congrArg (out ++ ·) (restG_at hx hy)));clear hyi hsx HI hx hy;unfold editV at *;generalize sameE x y = r at *
    have SW:Hid (∀ W:World,Below wr.heap.size wr W→(b1 < W.heap.size∧b2 < W.heap.size∧W.cell? ⟨b1,o1 + i * 5,none⟩ = some (.int .i64 x.kind)∧W.cell? ⟨b1,o1 + i * 5 + 1,none⟩ = some (.string x.pack)∧W.cell? ⟨b1,o1 + i * 5 + 2,none⟩ = some (.string x.text)∧W.cell? ⟨b1,o1 + i * 5 + 3,none⟩ = some (.slice xo x.old.length xc)∧W.cell? ⟨b1,o1 + i * 5 + 4,none⟩ = some (.slice xf x.fresh.length xd)∧W.cell? ⟨b2,o2 + k * 5,none⟩ = some (.int .i64 y.kind)∧W.cell? ⟨b2,o2 + k * 5 + 1,none⟩ = some (.string y.pack)∧W.cell? ⟨b2,o2 + k * 5 + 2,none⟩ = some (.string y.text)∧W.cell? ⟨b2,o2 + k * 5 + 3,none⟩ = some (.slice yo y.old.length yc)∧W.cell? ⟨b2,o2 + k * 5 + 4,none⟩ = some (.slice yf y.fresh.length yd))):=lH (fun W hW => ⟨Nat.lt_of_lt_of_le hb1 hW.size,Nat.lt_of_lt_of_le hb2 hW.size,(hW.cell (p:=⟨b1,_,none⟩) hb1).trans x0,(hW.cell (p:=⟨b1,_,none⟩) hb1).trans x1,(hW.cell (p:=⟨b1,_,none⟩) hb1).trans x2,(hW.cell (p:=⟨b1,_,none⟩) hb1).trans x3,(hW.cell (p:=⟨b1,_,none⟩) hb1).trans x4,(hW.cell (p:=⟨b2,_,none⟩) hb2).trans y0,(hW.cell (p:=⟨b2,_,none⟩) hb2).trans y1,(hW.cell (p:=⟨b2,_,none⟩) hb2).trans y2,(hW.cell (p:=⟨b2,_,none⟩) hb2).trans y3,(hW.cell (p:=⟨b2,_,none⟩) hb2).trans y4⟩)
    have hdr:Below wr.heap.size wr wr.drew:=(Mod.refl [] wr).drew.below;clear x0 x1 x2 x3 x4 y0 y1 y2 y3 y4;go_upto_region 6 with (fail)
    go_cut [29] from 9 to 38 (fun v wx => v = .bool r∧Below wr.heap.size wr wx)
    case first =>
     refine wp_region_noPanic (region_lex (fun W:World => b1 < W.heap.size∧b2 < W.heap.size∧W.cell? ⟨b1,o1 + i * 5,none⟩ = some (.int .i64 x.kind)∧W.cell? ⟨b1,o1 + i * 5 + 1,none⟩ = some (.string x.pack)∧W.cell? ⟨b1,o1 + i * 5 + 2,none⟩ = some (.string x.text)∧W.cell? ⟨b1,o1 + i * 5 + 3,none⟩ = some (.slice xo x.old.length xc)∧W.cell? ⟨b1,o1 + i * 5 + 4,none⟩ = some (.slice xf x.fresh.length xd)∧W.cell? ⟨b2,o2 + k * 5,none⟩ = some (.int .i64 y.kind)∧W.cell? ⟨b2,o2 + k * 5 + 1,none⟩ = some (.string y.pack)∧W.cell? ⟨b2,o2 + k * 5 + 2,none⟩ = some (.string y.text)∧W.cell? ⟨b2,o2 + k * 5 + 3,none⟩ = some (.slice yo y.old.length yc)∧W.cell? ⟨b2,o2 + k * 5 + 4,none⟩ = some (.slice yf y.fresh.length yd)) [true,true,true,true,true,true,true,true,true,true,true,true,true,false,true] mixedK (by kernel_rfl) (fun _ _ _ _ _ h => h) (SW.out _ hdr) (fun hHeld => ?_))
     iterate 13 (first | (refine lex_skip (by rfl) ?_;(try simp only [Act.put,List.setIfInBounds_toArray,List.set_cons_zero,List.set_cons_succ])) | (refine lex_take (v:=?_) (by rfl) ?_ ?_;rotate_left;(focus (intro wq hSw;(try dsimp only at hSw);go_simp;(try with_reducible rfl)));(try simp only [Act.put,List.setIfInBounds_toArray,List.set_cons_zero,List.set_cons_succ])))
     clear hHeld;generalize wr.drew = wd at *
     (refine lex_do (by rfl) (fun K hK => ?_);go_simp)
     refine (HC.out _ hdr).mono ?_;rintro r w3 ⟨rfl,hb3⟩
     (try go_simp)
     have hb4:=qtrans hdr hb3;refine hK.out _ _ (SW.out _ hb4) (fun _ => ?_);clear hK K;(try simp only [Act.put,List.setIfInBounds_toArray,List.set_cons_zero,List.set_cons_succ])
     (first | (refine lex_skip (by rfl) ?_;(try simp only [Act.put,List.setIfInBounds_toArray,List.set_cons_zero,List.set_cons_succ])) | (refine lex_take (v:=?_) (by rfl) ?_ ?_;rotate_left;(focus (intro wq hSw;(try dsimp only at hSw);go_simp;(try with_reducible rfl)));(try simp only [Act.put,List.setIfInBounds_toArray,List.set_cons_zero,List.set_cons_succ])))
     refine lex_end ?_;refine NoPanic.normal ?_
     (try go_wp2)
     go_meet
     case rel => exact ⟨rfl,hb4⟩
    case rest =>
    obtain ⟨rfl,hb4⟩:=hcut;have hB4:=hb.trans (hb4.mono hb.size);clear SW HC hdr
    cases r with
    | true =>
     simp only [if_true] at HN
     have HO4:Hid (OwnE u wc w.heap.size (.slice sa out.length sc) out∧out.length≤i + 1):=⟨HO.out.1.below hb4,by have:=HO.out.2;omega⟩;go_wp2;go_roundw
     case rel => exact ⟨i + 1,k + 1,out,by omega,by omega,by go_num,by go_num,HN,HO4,hB4⟩
     case measure => simp [intOf];omega
    | false =>
     simp only [Bool.false_eq_true,if_false] at HN
     rw [snoc_rest] at HN;obtain ⟨xs,hown,hxs⟩:=HO.out.1;have hln:=HO.out.2;have HXS:=lH hxs;have x0:=((qtrans HU.out hB4).cell (p:=⟨b1,_,none⟩) hbl1).trans HX0.out;have x1:=((qtrans HU.out hB4).cell (p:=⟨b1,_,none⟩) hbl1).trans HX1.out;have x2:=((qtrans HU.out hB4).cell (p:=⟨b1,_,none⟩) hbl1).trans HX2.out;have x3:=((qtrans HU.out hB4).cell (p:=⟨b1,_,none⟩) hbl1).trans HX3.out;have x4:=((qtrans HU.out hB4).cell (p:=⟨b1,_,none⟩) hbl1).trans HX4.out;have hsw:=hB4.size
     have hbr:b1 < wc.heap.size:=Nat.lt_of_lt_of_le hbl1 (qtrans HU.out hB4).size;have hA3:=qalloc wc (.cells #[.int .i64 x.kind,.string x.pack,.string x.text,.slice xo x.old.length xc,.slice xf x.fresh.length xd] 35);have HR3:=lH (owns_row (own_many wc wc.heap.size (Nat.le_refl _) 35 #[.int .i64 x.kind,.string x.pack,.string x.text,.slice xo x.old.length xc,.slice xf x.fresh.length xd] 5 1 rfl (by omega)));have HO3:=lH (owns_below (owns_below hown hb4) hA3);have HA3:=lH hA3;have HBB:=lH hB4;have hsz3:=hA3.size;clear hA3 hown hxs
     go_wp2_with (at_builtin;refine wpList_append_row rfl _ _ 23 rfl w.heap.size 35 i0 _ 5 88 Tryz.underlying23 hi hz0 hz1 hz2 hzs (by decide) _ _ _ rfl HO3.out _ _ _ rfl HR3.out (by intro u hu;simp at hu;rcases hu with rfl | rfl | rfl | rfl | rfl <;> rfl) (by unfold maxLen;omega) (by omega) (by omega) ?_)
     intro v5 w5 hown5 hg5 hbk5;have HB5:=lH (((HBB.out.trans (HA3.out.mono hsw))).grown hg5 (by omega) (fun x hx => (HO3.out.lt x hx).1));have HO5:Hid (OwnE u w5 w.heap.size v5 (out ++ [x])∧(out ++ [x]).length≤i + 1):=⟨OwnE.snoc HXS.out HIN.out hown5,by rw [List.length_append];simp;omega⟩;clear hown5 hg5 hbk5;go_wp2;go_roundw
     case rel => exact ⟨i + 1,k,out ++ [x],by omega,by omega,by go_num,rfl,HN,HO5,HB5.out⟩
     case measure => simp [intOf];omega
   ·have hd2:decide ((k:Int) < (s.length:Int)) = false:=decide_eq_false (by omega)
    have HN:=lH (HI.out.trans (congrArg (out ++ ·) (restG_off hx (show s.length≤k by omega))));rw [snoc_rest] at HN;clear HI hx;go_upto_region 6 with (fail)
    go_cut [29] from 9 to 38 (fun v wx => v = .bool false∧Below wr.heap.size wr wx)
    case first =>
     refine wp_region_noPanic ?_
     go_quiet (fail)
     refine NoPanic.normal ?_;go_wp2;go_meet
     case rel => exact ⟨rfl,below_drewN (qrefl _) _⟩
    case rest =>
    obtain ⟨rfl,hb4⟩:=hcut;have hB4:=hb.trans (hb4.mono hb.size);obtain ⟨xs,hown,hxs⟩:=HO.out.1;have hln:=HO.out.2;have HXS:=lH hxs;have x0:=((qtrans HU.out hB4).cell (p:=⟨b1,_,none⟩) hbl1).trans HX0.out;have x1:=((qtrans HU.out hB4).cell (p:=⟨b1,_,none⟩) hbl1).trans HX1.out;have x2:=((qtrans HU.out hB4).cell (p:=⟨b1,_,none⟩) hbl1).trans HX2.out;have x3:=((qtrans HU.out hB4).cell (p:=⟨b1,_,none⟩) hbl1).trans HX3.out;have x4:=((qtrans HU.out hB4).cell (p:=⟨b1,_,none⟩) hbl1).trans HX4.out;have hsw:=hB4.size
    have hbr:b1 < wc.heap.size:=Nat.lt_of_lt_of_le hbl1 (qtrans HU.out hB4).size;have hA3:=qalloc wc (.cells #[.int .i64 x.kind,.string x.pack,.string x.text,.slice xo x.old.length xc,.slice xf x.fresh.length xd] 35);have HR3:=lH (owns_row (own_many wc wc.heap.size (Nat.le_refl _) 35 #[.int .i64 x.kind,.string x.pack,.string x.text,.slice xo x.old.length xc,.slice xf x.fresh.length xd] 5 1 rfl (by omega)));have HO3:=lH (owns_below (owns_below hown hb4) hA3);have HA3:=lH hA3;have HBB:=lH hB4;have hsz3:=hA3.size;clear hA3 hown hxs
    go_wp2_with (at_builtin;refine wpList_append_row rfl _ _ 23 rfl w.heap.size 35 i0 _ 5 88 Tryz.underlying23 hi hz0 hz1 hz2 hzs (by decide) _ _ _ rfl HO3.out _ _ _ rfl HR3.out (by intro u hu;simp at hu;rcases hu with rfl | rfl | rfl | rfl | rfl <;> rfl) (by unfold maxLen;omega) (by omega) (by omega) ?_)
    intro v5 w5 hown5 hg5 hbk5;have HB5:=lH (((HBB.out.trans (HA3.out.mono hsw))).grown hg5 (by omega) (fun x hx => (HO3.out.lt x hx).1));have HO5:Hid (OwnE u w5 w.heap.size v5 (out ++ [x])∧(out ++ [x]).length≤i + 1):=⟨OwnE.snoc HXS.out HIN.out hown5,by rw [List.length_append];simp;omega⟩;clear hown5 hg5 hbk5;go_wp2;go_roundw
    case rel => exact ⟨i + 1,k,out ++ [x],by omega,by omega,by go_num,rfl,HN,HO5,HB5.out⟩
    case measure => simp [intOf];omega
  ·have hd:decide ((i:Int) < (l.length:Int)) = false:=decide_eq_false (by omega)
   have HF:Hid (T = out):=by show _ = _;rw [HI.out,List.drop_eq_nil_of_le (show l.length≤i by omega)];rw [restG,List.append_nil]
   have hO:=HO.out.1;rw [← HF.out] at hO;have HO2:=lH hO;clear hO HI HO;go_wp2;go_ret;exact ⟨_,rfl,HO2.out,hb⟩
set_option maxRecDepth 100000 in
set_option maxHeartbeats 8000000 in
theorem leads35_any (L:List OMod) (es so:List OEdit) (ma a b:Option Addr) (mc c d:Nat) (w:World) (hm:Reads w [] (modsT L) (.slice ma L.length mc)) (he:Reads w [] (editsT es) (.slice a es.length c)) (ho:Reads w [] (editsT so) (.slice b so.length d)) (hz:SzB 10 L) (hse:∀ e∈es,SmE e) (hn:es.length≤20) (hss:∀ e∈so,SmE e) (hns:so.length≤20)
  (hpl:(appR L es).2 = 0→(so ++ restG es so).length = es.length∧(appR L (so ++ restG es so)).2 = 0∧(appR L es).1 = (appR L (so ++ restG es so)).1∧((appR L so).2 = 0∨(((appR L so).2 = 7∨(appR L so).2 = 4)∧addsB so = true))) (hsr:∀ e∈so ++ restG es so,SmE e) :
  Calls Tryz.prog 24 #[.slice ma L.length mc,.slice a es.length c,.slice b so.length d] w fun r w' => r = .returned (.bool true)∧Below w.heap.size w w':=by
 obtain ⟨i0,z,hi,hz0,hzs,hz1,hz2⟩:=info_parts' infoEdit;have HM:=lH hm;have HE:=lH he;have HO:=lH ho;have HZ:=lH hz;have HSS:=lH hss;have HSR:=lH hsr;have HA1:=lH (eApply_any L es ma mc a c 10 w hm he hz (by omega) hse);have HX1:=lH ((appR_sz hz hse).three (by omega));have hx1l:=(appR_sz hz hse).len;have HPL:=lH hpl;have HSE:=lH hse;clear hm he ho hz hse hss hsr hpl
 go_enter Tryz.func24,Tryz.ntmps24
 go_wp2_with (fail)
 refine HA1.out.mono ?_;rintro r w1 ⟨v1,rfl,hr1,hb1⟩;have HR1:=lH hr1;have HB1:=lH hb1;clear hr1 hb1 HA1;obtain ⟨x1,x2,rfl,-,-⟩:=mods_slice HR1.out;generalize (appR L es).1 = M at *;generalize (appR L es).2 = E1 at *
 by_cases h0:E1 = 0
 rotate_left
 ·have q1:(E1 != 0) = true:=by simp [h0]
  clear h0;go_wp2;go_ret;exact ⟨rfl,HB1.out⟩
 obtain ⟨hlen,hok,heq,hself⟩:=HPL.out h0;subst h0;have HLEN:=lH hlen;have HOK:=lH hok;have HEQ:=lH heq;have HSF:=lH hself;clear HPL hlen hok heq hself;obtain ⟨xs,hr,-,hx⟩:=Reads.toRow HO.out;have hN0:(w1.alloc (.cells #[] 35)).ownsRow w1.heap.size 35 5 (.slice (some ⟨w1.heap.size,0,none⟩) 0 0) 0 []:=World.ownsRow_made _ #[] 0 (Nat.le_refl _) (Nat.zero_le _) rfl;have hq2:=qalloc w1 (.cells #[] 35);have hrow:=hr.below (qtrans HB1.out hq2);have HXS:=lH hx;have HONE:=lH (edits_one hx);clear hr hx
 go_wp2_with (at_builtin;refine wpList_append_row rfl _ _ 23 rfl w1.heap.size 35 i0 _ 5 88 Tryz.underlying23 hi hz0 hz1 hz2 hzs (by decide) _ _ _ rfl hN0 _ _ _ rfl hrow HONE.out (by unfold maxLen;omega) (by omega) (by simp) ?_)
 intro v4 W4 hown4 hg4 hbq
 (try simp only [Nat.zero_add,List.nil_append] at hown4)
 obtain ⟨va4,vc4,rfl⟩:=owns_val hown4;have HQ4:Hid (Below w1.heap.size w1 W4):=hq2.grown hg4 (by simp) (fun k hk => by cases hk;exact Nat.le_refl _);have HO4:=lH hown4;have HBW4:=lH (qtrans HB1.out HQ4.out);clear hown4 hg4 hbq hN0 hq2 hrow;have HRS:=lH (Rest_any es so a b c d w W4 HBW4.out HE.out (HO.out.below HBW4.out) HSE.out (by omega) (by omega));have HSR2:=HSR;generalize restG es so = rs at *;have hll:so.length + rs.length = es.length:=by rw [← HLEN.out,List.length_append]
 have HLL:=lH hll;have hrl:rs.length≤20:=by omega
 clear hll;go_wp2_with (fail)
 refine HRS.out.mono ?_;rintro r W5 ⟨v5,rfl,⟨ys,hown5,hys⟩,hb5⟩;obtain ⟨va5,vc5,rfl⟩:=owns_val hown5;have hown:=owns_below HO4.out hb5;have hr5:=owns_row hown5;have HYS:=lH hys;have HONE5:=lH (edits_one hys);have HQ5:=lH (HQ4.out.trans (hb5.mono HQ4.out.size));have hsz5:=HQ5.out.size;have HOWN:=lH hown;clear hown5 hys hb5 HRS HO4 HQ4 HBW4
 go_wp2_with (at_builtin;refine wpList_append_row rfl _ _ 23 rfl w1.heap.size 35 i0 _ 5 88 Tryz.underlying23 hi hz0 hz1 hz2 hzs (by decide) _ _ _ rfl hown _ _ _ rfl hr5 HONE5.out (by unfold maxLen;omega) (by omega) hsz5 ?_)
 intro v6 W6 hown6 hg6 hbq;have HQ6:Hid (Below w1.heap.size w1 W6):=HQ5.out.grown hg6 hsz5 (fun k hk => (HOWN.out.lt k hk).1);have HW6:=lH (qtrans HB1.out HQ6.out);have hoe:OwnE w W6 w1.heap.size v6 (so ++ rs):=⟨xs ++ ys,by rw [List.length_append];exact hown6,by rw [List.flatMap_append];exact ReadsL.append HYS.out HXS.out⟩;have hown7:=owns_eqC hown6 HLL.out;obtain ⟨va6,vc6,rfl⟩:=owns_val hown7;have hr6:=hoe.reads HW6.out;clear hown6 hg6 hbq hown7 hoe hown hr5 hsz5 HOWN HQ5
 have HA2:=lH (eApply_any L (so ++ rs) ma mc va6 vc6 10 W6 (HM.out.below HW6.out) (by rw [HLEN.out];exact hr6) HZ.out (by rw [HLEN.out];omega) HSR2.out);rw [HLEN.out] at HA2;clear hr6;go_wp2_with (fail)
 refine HA2.out.mono ?_;rintro r w7 ⟨v7,rfl,hr7,hb7⟩;rw [← HEQ.out] at hr7;have HR7:=lH hr7;have HB7:=lH (qtrans HQ6.out hb7);have HW7:=lH (qtrans HW6.out hb7);rw [HOK.out];clear hr7 hb7 HA2 HQ6 HW6 HEQ HOK;have HA3:=lH (eApply_any L so ma mc b d 10 w7 (HM.out.below HW7.out) (HO.out.below HW7.out) HZ.out (by omega) HSS.out);obtain ⟨y1,y2,rfl,-,-⟩:=mods_slice HR7.out;go_wp2_with (fail)
 refine HA3.out.mono ?_;rintro r w8 ⟨v8,rfl,-,hb8⟩;have HW8:=lH (qtrans HW7.out hb8);have HSM:=lH (r24SameMods_any M M x1 y1 x2 y2 w8 (HR1.out.below (qtrans HB7.out hb8)) (HR7.out.below hb8) HX1.out (by omega));rw [sameMs_iff.2 (rfl:M = M)] at HSM;have HAD:=lH (fun W (h:Below w.heap.size w W) => adds35_any so b d W (HO.out.below h) (by omega));clear hb8 HA3 HW7;generalize (appR L so).2 = E3 at *;have hqq:((es.length:Int) == (es.length:Int)) = true:=beq_self_eq_true _
 rcases HSF.out with rfl | ⟨rfl | rfl,had⟩
 ·go_wp2_with (fail)
  refine HSM.out.mono ?_;rintro r w9 ⟨rfl,hb9⟩;have HW9:=lH (qtrans HW8.out hb9);clear hb9 HSM;go_wp2;go_ret;exact ⟨rfl,HW9.out⟩
 ·go_wp2_with (fail)
  refine HSM.out.mono ?_;rintro r w9 ⟨rfl,hb9⟩;have HW9:=lH (qtrans HW8.out hb9);clear hb9 HSM;have HA9:=lH (HAD.out w9 HW9.out);rw [had] at HA9;go_wp2_with (fail)
  refine HA9.out.mono ?_;rintro r w10 ⟨rfl,hb10⟩;have HW10:=lH (qtrans HW9.out hb10);clear hb10 HA9;go_wp2;go_ret;exact ⟨rfl,HW10.out⟩
 ·go_wp2_with (fail)
  refine HSM.out.mono ?_;rintro r w9 ⟨rfl,hb9⟩;have HW9:=lH (qtrans HW8.out hb9);clear hb9 HSM;have HA9:=lH (HAD.out w9 HW9.out);rw [had] at HA9;go_wp2_with (fail)
  refine HA9.out.mono ?_;rintro r w10 ⟨rfl,hb10⟩;have HW10:=lH (qtrans HW9.out hb10);clear hb10 HA9;go_wp2;go_ret;exact ⟨rfl,HW10.out⟩
end Go.Proofs.YtdpnfkjafhbndaaGreatDoor

