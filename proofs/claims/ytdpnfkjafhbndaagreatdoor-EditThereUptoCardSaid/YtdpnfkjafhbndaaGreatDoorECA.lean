/- Great and Same of modules and of lists of modules. What applying edits makes of sizes. No program in sight. -/
import Derived.Test.YtdpnfkjafhbndaaGreatDoorEG5
import Derived.Test.YtdpnfkjafhbndaaGreatDoorEBL
namespace Go.Proofs.YtdpnfkjafhbndaaGreatDoor
open Go.RowKit Go.Shelf
attribute [local go_sem] Oper.semAt_some
theorem strs_at {w:World} {l:List ByteArray} {a:Option Addr} {c i:Nat} {s:ByteArray} (h:Strs w (.slice a l.length c) l) (hi:l[i]? = some s):∃ b o,a = some ⟨b,o,none⟩∧b < w.heap.size∧w.cell? ⟨b,o + i,none⟩ = some (.string s):=by
 obtain ⟨a',cap,e,_,_,hc⟩:=h.shape
 injection e with e1 e2 e3
 subst e1;obtain ⟨hl,rfl⟩:=List.getElem?_eq_some_iff.1 hi;obtain ⟨b,o,rfl,hb,hk⟩:=hc i hl;refine ⟨b,o,rfl,hb,?_⟩;rw [hk i hl,List.getD_eq_getElem?_getD,List.getElem?_eq_getElem hl];rfl
def greatU (l:List ByteArray):Bool:=if 10 < l.length then true else l.any fun s => decide (120 < s.size)
def greatM (m:OMod):Bool:=decide (120 < m.label.size) || (greatU m.uses || greatDs m.decls)
set_option maxRecDepth 100000 in
set_option maxHeartbeats 2000000 in
theorem rGreatUses_any (l:List ByteArray) (a:Option Addr) (c:Nat) (w:World) (hr:Strs w (.slice a l.length c) l) (hs:∀ s∈l,s.size≤4000000) :
  Calls Tryz.prog 100 #[.slice a l.length c] w fun e w' => e = .returned (.bool (greatU l))∧Below w.heap.size w w':=by
 have HR:=lH hr;have HS:=lH hs;clear hr hs
 by_cases h10:10 < l.length
 ·have hd:decide ((10:Int) < (l.length:Int)) = true:=decide_eq_true (by omega)
  have HF:Hid (greatU l = true):=by show _ = _;unfold greatU;rw [if_pos h10]
  clear h10
  go_enter Tryz.func100,Tryz.ntmps100
  go_wp2;go_ret;exact ⟨ret_bool HF.out.symm,qrefl _⟩
 ·have hd:decide ((10:Int) < (l.length:Int)) = false:=decide_eq_false (by omega)
  have HF:Hid (greatU l = (l.drop 0).any fun s => decide (120 < s.size)):=by show _ = _;unfold greatU;rw [if_neg h10];rfl
  go_enter Tryz.func100,Tryz.ntmps100
  go_wp2
  go_loopw [3] (fun iv wr => ∃ i:Nat,i≤l.length∧iv = .int .i64 i∧Hid (greatU l = (l.drop i).any fun s => decide (120 < s.size))∧Below w.heap.size w wr) (fun iv _ => l.length - (intOf iv).toNat)
  case atStart => exact ⟨0,Nat.zero_le _,rfl,HF,qrefl _⟩
  case round =>
   obtain ⟨i,hil,rfl,HI,hb⟩:=hrel;clear HF
   by_cases hi:i < l.length
   ·have hd2:decide ((i:Int) < (l.length:Int)) = true:=decide_eq_true (by omega)
    have hir:(i:Int) < (l.length:Int):=by omega
    obtain ⟨s,hs⟩:∃ s,l[i]? = some s:=⟨_,List.getElem?_eq_getElem hi⟩;obtain ⟨sb,so,rfl,hsb,hsc⟩:=strs_at (HR.out.below hb) hs;have HX:=lH (HI.out.trans (any_at (f:=fun s:ByteArray => decide (120 < s.size)) hs));have hsz:=HS.out s (List.mem_of_getElem? hs);clear hs HI
    by_cases h:120 < s.size
    ·have hq:decide ((120:Int) < (s.size:Int)) = true:=decide_eq_true (by omega)
     have HT:Hid (greatU l = true):=by show _ = _;rw [HX.out,decide_eq_true h];rfl
     clear h HX;go_wp2;go_ret;exact ⟨ret_bool HT.out.symm,hb⟩
    ·have hq:decide ((120:Int) < (s.size:Int)) = false:=decide_eq_false (by omega)
     have HT:Hid (greatU l = (l.drop (i + 1)).any fun s => decide (120 < s.size)):=by show _ = _;rw [HX.out,decide_eq_false h,Bool.false_or]
     clear h HX;go_wp2;go_roundw
     case rel => exact ⟨i + 1,by omega,by go_num,HT,hb⟩
     case measure => simp [intOf];omega
   ·have hd2:decide ((i:Int) < (l.length:Int)) = false:=decide_eq_false (by omega)
    have HT:Hid (greatU l = false):=by show _ = _;rw [HI.out,any_end (by omega)]
    go_wp2;go_ret;exact ⟨ret_bool HT.out.symm,hb⟩
set_option maxRecDepth 100000 in
set_option maxHeartbeats 2000000 in
theorem r24Great_any (m:OMod) (aum adm:Option Addr) (cum cdm:Nat) (w:World) (hm:ModIn w [] m aum cum adm cdm) (hs:BigM m) :
  Calls Tryz.prog 46 #[modV m aum cum adm cdm] w fun e w' => e = .returned (.bool (greatM m))∧Below w.heap.size w w':=by
 have HB:=lH (CBox.new w 52 #[.string m.label,.slice aum m.uses.length cum,.slice adm m.decls.length cdm]);have HA:=lH (qalloc w (.cells #[.string m.label,.slice aum m.uses.length cum,.slice adm m.decls.length cdm] 52));have HM:=lH hm;have HBM:=lH hs;have hls:=hs.label;clear hm hs;unfold modV
 go_enter Tryz.func46,Tryz.ntmps46
 go_upto_region 1 with (fail)
 generalize w.alloc (.cells #[.string m.label,.slice aum m.uses.length cum,.slice adm m.decls.length cdm] 52) = W0 at *;obtain ⟨B,hB⟩:∃ B,w.heap.size = B:=⟨_,rfl⟩;rw [hB] at HB ⊢;clear hB;have y0:=(HB.out).cell (i:=0) (v:=.string m.label) rfl;have y1:=(HB.out).cell (i:=1) (v:=.slice aum m.uses.length cum) rfl;have y2:=(HB.out).cell (i:=2) (v:=.slice adm m.decls.length cdm) rfl;have yl:=(HB.out).lt
 by_cases h:120 < m.label.size
 ·have hd:decide ((120:Int) < (m.label.size:Int)) = true:=decide_eq_true (by omega)
  have HF:Hid (greatM m = true):=by show _ = _;unfold greatM;rw [decide_eq_true h];rfl
  clear h;go_wp2;go_ret;exact ⟨ret_bool HF.out.symm,HA.out⟩
 ·have hd:decide ((120:Int) < (m.label.size:Int)) = false:=decide_eq_false (by omega)
  have HF:Hid (greatM m = (greatU m.uses || greatDs m.decls)):=by show _ = _;unfold greatM;rw [decide_eq_false h];rfl
  have HU:=lH (rGreatUses_any m.uses aum cum W0 (reads_strs.1 (HM.out.uses.below HA.out)).1 HBM.out.uses);clear h;generalize greatU m.uses = q at *
  cases q with
  | true =>
   go_wp2_with (fail)
   refine HU.out.mono ?_;rintro e w1 ⟨rfl,hb1⟩;have hbw:=HA.out.trans (hb1.mono HA.out.size);go_wp2;go_ret;exact ⟨ret_bool HF.out.symm,hbw⟩
  | false =>
   go_wp2_with (fail)
   refine HU.out.mono ?_;rintro e w1 ⟨rfl,hb1⟩;have hbw:=HA.out.trans (hb1.mono HA.out.size);have HB1:=lH (HB.out.below hb1);have HG:=lH (rGreatDecls_any m.decls adm cdm w1 (HM.out.decls.below hbw) HBM.out.decls);rw [Bool.false_or] at HF;clear y0 y1 y2 yl HU;have y0:=(HB1.out).cell (i:=0) (v:=.string m.label) rfl;have y1:=(HB1.out).cell (i:=1) (v:=.slice aum m.uses.length cum) rfl;have y2:=(HB1.out).cell (i:=2) (v:=.slice adm m.decls.length cdm) rfl;have yl:=(HB1.out).lt;generalize greatDs m.decls = r at *;go_wp2_with (fail)
   refine HG.out.mono ?_;rintro e w2 ⟨rfl,hb2⟩;go_wp2;go_ret;exact ⟨ret_bool HF.out.symm,hbw.trans (hb2.mono hbw.size)⟩
def sameM (m n:OMod):Bool:=eqS m.label n.label && (sameSs m.uses n.uses && sameDs m.decls n.decls)
theorem sameM_iff {m n:OMod}:sameM m n = true↔m = n:=by
 unfold sameM;rw [Bool.and_eq_true,Bool.and_eq_true,sameSs_iff,sameDs_iff,eqS_iff]
 cases m;cases n
 simp
set_option maxRecDepth 100000 in
set_option maxHeartbeats 2000000 in
theorem r24Same_any (m n:OMod) (aum adm aun adn:Option Addr) (cum cdm cun cdn:Nat) (w:World) (hm:ModIn w [] m aum cum adm cdm) (hn:ModIn w [] n aun cun adn cdn) (hs:∀ x∈m.decls,x.names.length≤1000000∧nodesN x.body≤1000000) (hul:m.uses.length≤1000000) (hdl:m.decls.length≤1000000) :
  Calls Tryz.prog 41 #[modV m aum cum adm cdm,modV n aun cun adn cdn] w fun e w' => e = .returned (.bool (sameM m n))∧Below w.heap.size w w':=by
 obtain ⟨hb,hr,hA⟩:=two_boxes w 52 #[.string m.label,.slice aum m.uses.length cum,.slice adm m.decls.length cdm] #[.string n.label,.slice aun n.uses.length cun,.slice adn n.decls.length cdn];have HM:=lH hm;have HN:=lH hn;have HS:=lH hs;clear hm hn hs;unfold modV
 go_enter Tryz.func41,Tryz.ntmps41
 go_upto_region 1 with (fail)
 generalize (w.alloc (.cells #[.string m.label,.slice aum m.uses.length cum,.slice adm m.decls.length cdm] 52)).alloc (.cells #[.string n.label,.slice aun n.uses.length cun,.slice adn n.decls.length cdn] 52) = W0 at *;obtain ⟨R,hR⟩:∃ R,w.heap.size + 1 = R:=⟨_,rfl⟩;rw [hR] at hr ⊢;have HR:=lH hr;have HB:=lH hb;have HA:=lH hA;obtain ⟨B,hB⟩:∃ B,w.heap.size = B:=⟨_,rfl⟩;rw [hB] at HB ⊢;clear hR hB hr hb hA;have y0:=(HB.out).cell (i:=0) (v:=.string m.label) rfl;have y1:=(HB.out).cell (i:=1) (v:=.slice aum m.uses.length cum) rfl
 have y2:=(HB.out).cell (i:=2) (v:=.slice adm m.decls.length cdm) rfl;have yl:=(HB.out).lt;have z0:=(HR.out).cell (i:=0) (v:=.string n.label) rfl;have z1:=(HR.out).cell (i:=1) (v:=.slice aun n.uses.length cun) rfl;have z2:=(HR.out).cell (i:=2) (v:=.slice adn n.decls.length cdn) rfl;have zl:=(HR.out).lt;have HF:Hid (sameM m n = (eqS m.label n.label && (sameSs m.uses n.uses && sameDs m.decls n.decls))):=rfl;obtain ⟨q,hq⟩:∃ q,(m.label.toList == n.label.toList) = q:=⟨_,rfl⟩;have HQ:Hid (eqS m.label n.label = q):=hq
 cases q with
 | false =>
  have HT:Hid (sameM m n = false):=by show _ = _;rw [HF.out,HQ.out];rfl
  go_wp2;go_ret;exact ⟨ret_bool HT.out.symm,HA.out⟩
 | true =>
  rw [HQ.out,Bool.true_and] at HF;have HU:=lH (fun w1 h => rSameStrings_any m.uses n.uses aum aun cum cun w1 (reads_strs.1 (HM.out.uses.below h)).1 (reads_strs.1 (HN.out.uses.below h)).1 hul);generalize sameSs m.uses n.uses = s at *
  cases s with
  | false =>
   have HT:Hid (sameM m n = false):=by show _ = _;rw [HF.out];rfl
   go_wp2_with (fail)
   refine (HU.out _ HA.out).mono ?_;rintro e w1 ⟨rfl,hb1⟩;go_wp2;go_ret;exact ⟨ret_bool HT.out.symm,HA.out.trans (hb1.mono HA.out.size)⟩
  | true =>
   rw [Bool.true_and] at HF;go_wp2_with (fail)
   refine (HU.out _ HA.out).mono ?_;rintro e w1 ⟨rfl,hb1⟩;have hbw:=HA.out.trans (hb1.mono HA.out.size);have HB1:=lH (HB.out.below hb1);have HR1:=lH (HR.out.below hb1);have HD:=lH (rSameDecls_any m.decls n.decls adm adn cdm cdn w1 (HM.out.decls.below hbw) (HN.out.decls.below hbw) HS.out hdl);clear y0 y1 y2 yl z0 z1 z2 zl HU;have y0:=(HB1.out).cell (i:=0) (v:=.string m.label) rfl;have y1:=(HB1.out).cell (i:=1) (v:=.slice aum m.uses.length cum) rfl;have y2:=(HB1.out).cell (i:=2) (v:=.slice adm m.decls.length cdm) rfl;have yl:=(HB1.out).lt
   have z0:=(HR1.out).cell (i:=0) (v:=.string n.label) rfl;have z1:=(HR1.out).cell (i:=1) (v:=.slice aun n.uses.length cun) rfl;have z2:=(HR1.out).cell (i:=2) (v:=.slice adn n.decls.length cdn) rfl;have zl:=(HR1.out).lt;generalize sameDs m.decls n.decls = t at *;go_wp2_with (fail)
   refine HD.out.mono ?_;rintro e w2 ⟨rfl,hb2⟩;go_wp2;go_ret;exact ⟨ret_bool HF.out.symm,hbw.trans (hb2.mono hbw.size)⟩
theorem smM_of {m:OMod} (h:BigM m) (g:greatM m = false):(m.label.size≤120∧(∀ s∈m.uses,s.size≤40000)∧m.uses.length≤10∧m.decls.length≤8)∧∀ d∈m.decls,SmD d∧nodesN d.body≤1000000:=by
 unfold greatM at g;simp only [Bool.or_eq_false_iff,decide_eq_false_iff_not] at g
 obtain ⟨g1,g2,g3⟩:=g;unfold greatU at g2;split at g2
 ·cases g2
 ·unfold greatDs at g3
  split at g3
  ·cases g3
  ·have k3:∀ d∈m.decls,greatD d = false:=fun d hd => by
    have:=List.any_eq_false.1 g3 d hd
    simpa using this
   exact ⟨⟨by omega,fun s hs => by
    have:=List.any_eq_false.1 g2 s hs;simp at this
    omega,by omega,by omega⟩,fun d hd => smD_of (h.decls d hd) (k3 d hd)⟩
def greatMs (l:List OMod):Bool:=l.any greatM || decide (4 < l.length)
theorem szB_of {l:List OMod} (h:∀ m∈l,BigM m) (g:greatMs l = false):SzB 10 l:=by
 unfold greatMs at g;simp only [Bool.or_eq_false_iff,List.any_eq_false,decide_eq_false_iff_not] at g
 refine ⟨by omega,fun m hm => ?_⟩;obtain ⟨⟨h1,h2,h3,h4⟩,h5⟩:=smM_of (h m hm) (by simpa using g.1 m hm);exact ⟨⟨by omega,h2,h3,by omega⟩,h5⟩
set_option maxRecDepth 100000 in
set_option maxHeartbeats 4000000 in
theorem r34Great_any (l:List OMod) (a:Option Addr) (c:Nat) (w:World) (hl:Reads w [] (modsT l) (.slice a l.length c)) (hs:∀ m∈l,BigM m) (hn:l.length≤4000000) :
  Calls Tryz.prog 14 #[.slice a l.length c] w fun r w' => r = .returned (.bool (greatMs l))∧Below w.heap.size w w':=by
 have HL:=lH hl;have HS:=lH hs;clear hl hs;have HG:Hid (greatMs l = (l.any greatM || decide (4 < l.length))):=rfl;have HE:Hid (l.any greatM = (l.drop 0).any greatM):=rfl;generalize l.any greatM = T0 at *;generalize greatMs l = T at *
 go_enter Tryz.func14,Tryz.ntmps14
 go_wp2
 go_loopw [3] (fun iv wr => ∃ i:Nat,i≤l.length∧iv = .int .i64 i∧Hid (T0 = (l.drop i).any greatM)∧Below w.heap.size w wr) (fun iv _ => l.length - (intOf iv).toNat)
 case atStart => exact ⟨0,Nat.zero_le _,rfl,HE,qrefl _⟩
 case round =>
  obtain ⟨i,hil,rfl,HI,hb⟩:=hrel
  by_cases hi:i < l.length
  ·have hd:decide ((i:Int) < (l.length:Int)) = true:=decide_eq_true (by omega)
   have hir:(i:Int) < (l.length:Int):=by omega
   obtain ⟨m,hm⟩:∃ m,l[i]? = some m:=⟨_,List.getElem?_eq_getElem hi⟩;obtain ⟨b,o,au,cu,ad,cd,rfl,hbl,x0,x1,x2,q1,q2,hru,q3,q4,hrd⟩:=mods_elem (HL.out.below hb) hm;have HD:=lH (r24Great_any m au ad cu cd wr ⟨hru.out,hrd.out,q1,q2,q3,q4⟩ (HS.out m (List.mem_of_getElem? hm)));have HN:=lH (HI.out.trans (any_at (f:=greatM) hm));clear hru hrd HI hm q1 q2 q3 q4;unfold modV at HD;generalize greatM m = ge at *;go_wp2_with (fail)
   refine HD.out.mono ?_;rintro r w1 ⟨rfl,hb1⟩;have hB:=hb.trans (hb1.mono hb.size);clear HD
   cases ge with
   | true =>
    have HF:Hid (T = true):=by show _ = _;rw [HG.out,HN.out];simp only [Bool.true_or]
    go_wp2;go_ret;exact ⟨ret_bool HF.out.symm,hB⟩
   | false =>
    rw [Bool.false_or] at HN;go_wp2;go_roundw
    case rel => exact ⟨i + 1,by omega,by go_num,HN,hB⟩
    case measure => simp [intOf];omega
  ·have hd:decide ((i:Int) < (l.length:Int)) = false:=decide_eq_false (by omega)
   have HF:Hid (T = decide (4 < l.length)):=by show _ = _;rw [HG.out,HI.out,any_end (by omega),Bool.false_or]
   have hq:decide ((4:Int) < (l.length:Int)) = decide (4 < l.length):=decide_eq_decide.2 (by omega);go_wp2;go_ret;exact ⟨ret_bool (by first | rw [HF.out] | rw [HF.out,hq]),hb⟩
def sameMs:List OMod→List OMod→Bool
 | [],[] => true
 | x :: l,y :: m => sameM x y && sameMs l m
 | _,_ => false
theorem sameMs_iff:∀ {l m:List OMod},sameMs l m = true↔l = m
 | [],[] => by simp [sameMs]
 | [],b :: s => by simp [sameMs]
 | a :: r,[] => by simp [sameMs]
 | a :: r,b :: s => by simp [sameMs,sameM_iff,sameMs_iff]
theorem sameMs_len {l m:List OMod} (h:l.length≠m.length):sameMs l m = false:=by
 cases e:sameMs l m with
 | false => rfl
 | true => exact absurd (congrArg List.length (sameMs_iff.1 e)) h
theorem sameMs_at {l m:List OMod} {i:Nat} {x y:OMod} (hx:l[i]? = some x) (hy:m[i]? = some y):sameMs (l.drop i) (m.drop i) = (sameM x y && sameMs (l.drop (i + 1)) (m.drop (i + 1))):=by
 obtain ⟨h1,e1⟩:=List.getElem?_eq_some_iff.1 hx;obtain ⟨h2,e2⟩:=List.getElem?_eq_some_iff.1 hy;rw [List.drop_eq_getElem_cons h1,List.drop_eq_getElem_cons h2,sameMs,e1,e2]
theorem sameMs_end {l m:List OMod} {i:Nat} (hl:l.length≤i) (hm:m.length≤i):sameMs (l.drop i) (m.drop i) = true:=by
 rw [List.drop_eq_nil_of_le hl,List.drop_eq_nil_of_le hm,sameMs]
set_option maxRecDepth 100000 in
set_option maxHeartbeats 8000000 in
theorem r24SameMods_any (l m:List OMod) (a b:Option Addr) (c d:Nat) (w:World) (hl:Reads w [] (modsT l) (.slice a l.length c)) (hm:Reads w [] (modsT m) (.slice b m.length d)) (hs:∀ m∈l,(∀ x∈m.decls,x.names.length≤1000000∧nodesN x.body≤1000000)∧m.uses.length≤1000000∧m.decls.length≤1000000) (hn:l.length≤1000000) :
  Calls Tryz.prog 19 #[.slice a l.length c,.slice b m.length d] w fun e w' => e = .returned (.bool (sameMs l m))∧Below w.heap.size w w':=by
 have HL:=lH hl;have HM:=lH hm;have HS:=lH hs;have HE:Hid (sameMs l m = sameMs (l.drop 0) (m.drop 0)):=rfl;have HLEN:=lH (sameMs_len (l:=l) (m:=m));clear hl hm hs;generalize sameMs l m = T at *
 by_cases hlen:l.length = m.length
 rotate_left
 ·have q1:((l.length:Int) != (m.length:Int)) = true:=bne_iff_ne.2 (by omega)
  have HF:=lH (HLEN.out hlen);clear hlen HLEN
  go_enter Tryz.func19,Tryz.ntmps19
  go_wp2;go_ret;exact ⟨ret_bool HF.out.symm,qrefl _⟩
 have q1:((l.length:Int) != (m.length:Int)) = false:=by rw [hlen];simp
 have HLE:=lH hlen;clear hlen HLEN
 go_enter Tryz.func19,Tryz.ntmps19
 go_wp2
 go_loopw [5] (fun iv wr => ∃ i:Nat,i≤l.length∧iv = .int .i64 i∧Hid (T = sameMs (l.drop i) (m.drop i))∧Below w.heap.size w wr) (fun iv _ => l.length - (intOf iv).toNat)
 case atStart => exact ⟨0,Nat.zero_le _,rfl,HE,qrefl _⟩
 case round =>
  obtain ⟨i,hil,rfl,HI,hb⟩:=hrel
  by_cases hi:i < l.length
  ·have hd:decide ((i:Int) < (l.length:Int)) = true:=decide_eq_true (by omega)
   have hi2:i < m.length:=by rw [← HLE.out];exact hi
   have hir:(i:Int) < (l.length:Int):=by omega
   have hir2:(i:Int) < (m.length:Int):=by omega
   obtain ⟨x,hx⟩:∃ x,l[i]? = some x:=⟨_,List.getElem?_eq_getElem hi⟩;obtain ⟨y,hy⟩:∃ y,m[i]? = some y:=⟨_,List.getElem?_eq_getElem hi2⟩;obtain ⟨b1,o1,xo,xc,xf,xd,rfl,hb1,x0,x1,x2,p1,p2,hxu,p3,p4,hxd⟩:=mods_elem (HL.out.below hb) hx;obtain ⟨b2,o2,yo,yc,yf,yd,rfl,hb2,y0,y1,y2,r1,r2,hyu,r3,r4,hyd⟩:=mods_elem (HM.out.below hb) hy;have hxi:ModIn wr [] x xo xc xf xd:=⟨hxu.out,hxd.out,p1,p2,p3,p4⟩;have hyi:ModIn wr [] y yo yc yf yd:=⟨hyu.out,hyd.out,r1,r2,r3,r4⟩;have hsx:=HS.out x (List.mem_of_getElem? hx)
   have HC:=lH (fun w' (h':Below wr.heap.size wr w') => r24Same_any x y xo xf yo yf xc xd yc yd w' (hxi.below h') (hyi.below h') hsx.1 hsx.2.1 hsx.2.2);have HN:=lH (HI.out.trans (sameMs_at hx hy));clear hxi hyi hsx HI hx hy hxu hxd hyu hyd p1 p2 p3 p4 r1 r2 r3 r4;unfold modV at *;generalize sameM x y = r at *
   have SW:Hid (∀ W:World,Below wr.heap.size wr W→(b1 < W.heap.size∧b2 < W.heap.size∧W.cell? ⟨b1,o1 + i * 3,none⟩ = some (.string x.label)∧W.cell? ⟨b1,o1 + i * 3 + 1,none⟩ = some (.slice xo x.uses.length xc)∧W.cell? ⟨b1,o1 + i * 3 + 2,none⟩ = some (.slice xf x.decls.length xd)∧W.cell? ⟨b2,o2 + i * 3,none⟩ = some (.string y.label)∧W.cell? ⟨b2,o2 + i * 3 + 1,none⟩ = some (.slice yo y.uses.length yc)∧W.cell? ⟨b2,o2 + i * 3 + 2,none⟩ = some (.slice yf y.decls.length yd))):=lH (fun W hW => ⟨Nat.lt_of_lt_of_le hb1 hW.size,Nat.lt_of_lt_of_le hb2 hW.size,(hW.cell (p:=⟨b1,_,none⟩) hb1).trans x0,(hW.cell (p:=⟨b1,_,none⟩) hb1).trans x1,(hW.cell (p:=⟨b1,_,none⟩) hb1).trans x2,(hW.cell (p:=⟨b2,_,none⟩) hb2).trans y0,(hW.cell (p:=⟨b2,_,none⟩) hb2).trans y1,(hW.cell (p:=⟨b2,_,none⟩) hb2).trans y2⟩)
   have hdr:Below wr.heap.size wr wr.drew:=(Mod.refl [] wr).drew.below;clear x0 x1 x2 y0 y1 y2;go_upto_region 6 with (fail)
   go_cut [26] from 11 to 26 (fun v wx => v = .bool (!r)∧Below wr.heap.size wr wx)
   case first =>
    refine wp_region_noPanic (region_lex (fun W:World => b1 < W.heap.size∧b2 < W.heap.size∧W.cell? ⟨b1,o1 + i * 3,none⟩ = some (.string x.label)∧W.cell? ⟨b1,o1 + i * 3 + 1,none⟩ = some (.slice xo x.uses.length xc)∧W.cell? ⟨b1,o1 + i * 3 + 2,none⟩ = some (.slice xf x.decls.length xd)∧W.cell? ⟨b2,o2 + i * 3,none⟩ = some (.string y.label)∧W.cell? ⟨b2,o2 + i * 3 + 1,none⟩ = some (.slice yo y.uses.length yc)∧W.cell? ⟨b2,o2 + i * 3 + 2,none⟩ = some (.slice yf y.decls.length yd)) [true,true,true,true,true,true,true,true,false,true] mixedK (by kernel_rfl) (fun _ _ _ _ _ h => h) (SW.out _ hdr) (fun hHeld => ?_))
    iterate 8 (first | (refine lex_skip (by rfl) ?_;(try simp only [Act.put,List.setIfInBounds_toArray,List.set_cons_zero,List.set_cons_succ])) | (refine lex_take (v:=?_) (by rfl) ?_ ?_;rotate_left;(focus (intro wq hSw;(try dsimp only at hSw);go_simp;(try with_reducible rfl)));(try simp only [Act.put,List.setIfInBounds_toArray,List.set_cons_zero,List.set_cons_succ])))
    clear hHeld;generalize wr.drew = wd at *
    (refine lex_do (by rfl) (fun K hK => ?_);go_simp)
    refine (HC.out _ hdr).mono ?_;rintro r w3 ⟨rfl,hb3⟩
    (try go_simp)
    have hb4:=qtrans hdr hb3;refine hK.out _ _ (SW.out _ hb4) (fun _ => ?_);clear hK K;(try simp only [Act.put,List.setIfInBounds_toArray,List.set_cons_zero,List.set_cons_succ])
    (first | (refine lex_skip (by rfl) ?_;(try simp only [Act.put,List.setIfInBounds_toArray,List.set_cons_zero,List.set_cons_succ])) | (refine lex_take (v:=?_) (by rfl) ?_ ?_;rotate_left;(focus (intro wq hSw;(try dsimp only at hSw);go_simp;(try with_reducible rfl)));(try simp only [Act.put,List.setIfInBounds_toArray,List.set_cons_zero,List.set_cons_succ])))
    refine lex_end ?_;refine NoPanic.normal ?_
    (try go_wp2)
    go_meet
    case rel => exact ⟨rfl,hb4⟩
   case rest =>
   obtain ⟨rfl,hb4⟩:=hcut;have hB4:=hb.trans (hb4.mono hb.size);clear SW HC hdr
   cases r with
   | true =>
    rw [Bool.true_and] at HN;simp only [Bool.not_true]
    go_wp2;go_roundw
    case rel => exact ⟨i + 1,by omega,by go_num,HN,hB4⟩
    case measure => simp [intOf];omega
   | false =>
    rw [Bool.false_and] at HN;simp only [Bool.not_false]
    go_wp2;go_ret;exact ⟨ret_bool HN.out.symm,hB4⟩
  ·have hd:decide ((i:Int) < (l.length:Int)) = false:=decide_eq_false (by omega)
   have HF:Hid (T = true):=by show _ = _;rw [HI.out,sameMs_end (by omega) (by rw [← HLE.out];omega)]
   go_wp2;go_ret;exact ⟨ret_bool HF.out.symm,hb⟩
end Go.Proofs.YtdpnfkjafhbndaaGreatDoor
namespace Go.Proofs.YtdpnfkjafhbndaaGreatDoor
open Go.RowKit Go.Shelf
theorem SzL.run':∀ {es:List OEdit} {n:Nat} {l:List OMod},SzL n l→(∀ e∈es,SmE e)→SzL (n + es.length) (runL l es).1
 | [],n,l,h,_ => h
 | e :: r,n,l,h,he => by
  unfold runL;have h1:=he e (List.mem_cons_self ..);split
  case isTrue h0 =>
   split
   ·have:=SzL.run' (h.step (szE_valid h1 h0) h0) (fun q hq => he q (List.mem_cons_of_mem _ hq))
    rw [show n + (e :: r).length = n + 1 + r.length by rw [List.length_cons];omega];exact this
   ·exact (h.step (szE_valid h1 h0) h0).mono (by rw [List.length_cons];omega)
  ·exact h.mono (Nat.le_add_right _ _)
theorem appR_sz {n:Nat} {l:List OMod} {es:List OEdit} (hz:SzB n l) (hs:∀ e∈es,SmE e):SzL (n + es.length) (appR l es).1:=by
 have hnil:SzL (n + es.length) []:=⟨Nat.zero_le _,fun m hm => (List.not_mem_nil hm).elim⟩;unfold appR;split
 case isTrue h0 =>
  split
  ·split
   ·exact (hz.valid h0).run' hs
   ·exact hnil
  ·exact hnil
 ·exact hnil
theorem SzL.three {n:Nat} {l:List OMod} (h:SzL n l) (hn:n≤1000000):∀ m∈l,(∀ x∈m.decls,x.names.length≤1000000∧nodesN x.body≤1000000)∧m.uses.length≤1000000∧m.decls.length≤1000000:=fun m hm =>
 have k:=h.mods m hm
 ⟨fun x hx => ⟨(k.decls x hx).sm.len,(k.decls x hx).nodes⟩,Nat.le_trans k.ulen hn,Nat.le_trans k.dlen hn⟩
theorem SzL.b {n:Nat} {l:List OMod} (h:SzL n l):SzB n l:=⟨h.len,fun m hm => ⟨⟨(h.mods m hm).label,(h.mods m hm).uses,(h.mods m hm).ulen,(h.mods m hm).dlen⟩,fun d hd => ⟨((h.mods m hm).decls d hd).sm,((h.mods m hm).decls d hd).nodes⟩⟩⟩
theorem smEs_of {l:List OEdit} (hb:∀ x∈l,BigE x) (h:greatEs l = false):(∀ x∈l,SmE x)∧l.length≤20:=by
  unfold greatEs at h
  simp only [Bool.or_eq_false_iff,List.any_eq_false,decide_eq_false_iff_not] at h
  exact ⟨fun x hx => smE_of (hb x hx) (by simpa using h.1 x hx),by omega⟩
theorem mods_slice {w:World} {l:List OMod} {v:Value} (h:Reads w [] (modsT l) v):∃ a c,v = .slice a l.length c∧l.length≤c∧c≤9223372036854775807:=mods_val h
end Go.Proofs.YtdpnfkjafhbndaaGreatDoor

