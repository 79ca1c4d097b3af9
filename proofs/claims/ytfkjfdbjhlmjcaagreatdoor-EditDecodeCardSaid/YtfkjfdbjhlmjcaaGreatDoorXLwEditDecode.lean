/- The law EditDecode. -/
import Derived.Test.YtfkjfdbjhlmjcaaGreatDoorXDEX
import Derived.Test.YtfkjfdbjhlmjcaaGreatDoorXKQ
set_option maxRecDepth 100000
set_option maxHeartbeats 16000000
namespace Go.Proofs.YtfkjfdbjhlmjcaaGreatDoor
open Go.RowKit Go.Shelf
attribute [local go_sem] Oper.semAt_some
theorem yDb:SmE zeroE:=⟨Nat.zero_le _,Nat.zero_le _,fun d hd=>(by cases hd),fun d hd=>(by cases hd),Nat.zero_le _,Nat.zero_le _⟩
theorem zLi (s:ByteArray) (w:World) (hs:s.size≤9223372036854775807) :
  Calls Tryz.prog 6 #[.string s] w fun r w'=>r=.returned (.bool true)∧Bw w w':=by
 by_cases hl:300<s.size
 ·have h1:decide ((300:Int)<(s.size:Int))=true:=decide_eq_true (by omega)
  have h2:decide (300<s.size)=true:=decide_eq_true hl
  go_enter Tryz.func6,Tryz.ntmps6
  have HW:=lH (zAl w);go_wp2_with (fail)
  refine (zKt _).mono ?_;rintro r w19 ⟨rfl,hb19⟩;have HF19:=lH (zA HW.o hb19);clear hb19;go_wp2;go_ret;exact ⟨rfl,HF19.o⟩
 ·obtain ⟨l,hsl⟩:∃l:List UInt8,s=⟨l.toArray⟩:=⟨s.data.toList,by simp⟩
  have hll:l.length≤300:=by rw [hsl] at hl;have:=zAt l;omega
  have HCA:=lH (zWn l (by omega));have HCB:=lH (zPa l (by omega));have HOR:=yAc l (by omega);rw [←yCr l (by omega)] at HCB
  have HSM:SmE (decP l).1:=by
   rcases HOR with h|⟨e,h1,_,_,h4⟩
   ·rw [h];exact yDb
   ·rw [h4];exact h1
  generalize decP l=P at *;rw [←hsl] at HCA HCB;clear HOR hll hsl;have h1:decide ((300:Int)<(s.size:Int))=false:=decide_eq_false (by omega);have h2:decide (300<s.size)=false:=decide_eq_false hl;obtain ⟨x,er⟩:=P;simp only at HSM
  replace HSM:=lH HSM;unfold DecPost editV at HCA HCB;simp only at HCA HCB
  have HSS:Hid (sameE x x=true):=zYm.2 rfl;have hee:(er==er)=true:=beq_self_eq_true er
  go_enter Tryz.func6,Tryz.ntmps6
  go_wp2_with (fail)
  refine (HCA.o w).mono ?_;rintro r w1 ⟨ao,co,af,cf,rfl,he1,hb1⟩;have HE1:=lH he1;have HB1:=lH hb1;clear HCA he1 hb1;go_upto_region 4 with (fail)
  have hal:=zAa w1 (.cells #[.int .i64 x.kind,.string x.pack,.string x.text,.slice ao x.old.length co,.slice af x.fresh.length cf] 39);have HX:=lH (CBox.new w1 39 #[.int .i64 x.kind,.string x.pack,.string x.text,.slice ao x.old.length co,.slice af x.fresh.length cf]);have HE2:=lH (HE1.o.below hal);have HB2:=lH (zA HB1.o hal);clear hal HE1 HB1;obtain ⟨A,hA⟩:∃A,w1.heap.size=A:=⟨_,rfl⟩;rw [hA] at HX
  (try rw [hA])
  clear hA;generalize World.alloc w1 _=w2 at *;go_wp2_with (fail)
  refine (HCB.o w2).mono ?_;rintro r w3 ⟨bo,dd,bf,df,rfl,he3,hb3⟩;have HF3:=lH he3;have HE3:=lH (HE2.o.below hb3);have HX3:=lH (HX.o.below hb3);have HB3:=lH (zA HB2.o hb3);clear HCB he3 hb3 HE2 HX HB2;go_upto_region 5 with (fail)
  have hal:=zAa w3 (.cells #[.int .i64 x.kind,.string x.pack,.string x.text,.slice bo x.old.length dd,.slice bf x.fresh.length df] 39);have HY:=lH (CBox.new w3 39 #[.int .i64 x.kind,.string x.pack,.string x.text,.slice bo x.old.length dd,.slice bf x.fresh.length df]);have HF4:=lH (HF3.o.below hal);have HE4:=lH (HE3.o.below hal);have HX4:=lH (HX3.o.below hal);have HB4:=lH (zA HB3.o hal);clear hal HF3 HE3 HX3 HB3;obtain ⟨B,hB⟩:∃B,w3.heap.size=B:=⟨_,rfl⟩;rw [hB] at HY
  (try rw [hB])
  clear hB;generalize World.alloc w3 _=w4 at *;have x0:=HX4.o.cell (i:=0) (v:=.int .i64 x.kind) rfl;have x1:=HX4.o.cell (i:=1) (v:=.string x.pack) rfl;have x2:=HX4.o.cell (i:=2) (v:=.string x.text) rfl;have x3:=HX4.o.cell (i:=3) (v:=.slice ao x.old.length co) rfl;have x4:=HX4.o.cell (i:=4) (v:=.slice af x.fresh.length cf) rfl;have xl:=HX4.o.lt;have y0:=HY.o.cell (i:=0) (v:=.int .i64 x.kind) rfl;have y1:=HY.o.cell (i:=1) (v:=.string x.pack) rfl;have y2:=HY.o.cell (i:=2) (v:=.string x.text) rfl
  have y3:=HY.o.cell (i:=3) (v:=.slice bo x.old.length dd) rfl;have y4:=HY.o.cell (i:=4) (v:=.slice bf x.fresh.length df) rfl;have yl:=HY.o.lt;have HCS:=zSe x x ao co af cf bo dd bf df w4 HE4.o HF4.o HSM.o;rw [HSS.o] at HCS;unfold editV at HCS;replace HCS:=lH HCS;clear HSM HSS HE4 HF4 HX4 HY;go_wp2_with (fail)
  refine HCS.o.mono ?_;rintro r w5 ⟨rfl,hb5⟩;have HB5:=lH (zA HB4.o hb5);clear HCS hb5 HB4 x0 x1 x2 x3 x4 xl y0 y1 y2 y3 y4 yl;go_wp2_with (fail)
  refine (zKt _).mono ?_;rintro r w19 ⟨rfl,hb19⟩;have HF19:=lH (zA HB5.o hb19);clear hb19;go_wp2;go_ret;exact ⟨rfl,HF19.o⟩
end Go.Proofs.YtfkjfdbjhlmjcaaGreatDoor
