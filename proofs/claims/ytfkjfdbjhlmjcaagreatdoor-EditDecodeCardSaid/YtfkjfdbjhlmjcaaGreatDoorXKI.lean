/- The reference's put, PutInt, PutText, number, text and truth. -/
import Derived.Test.YtfkjfdbjhlmjcaaGreatDoorXShW
set_option maxRecDepth 100000
set_option maxHeartbeats 16000000
namespace Go.Proofs.YtfkjfdbjhlmjcaaGreatDoor
open Go.RowKit Go.Shelf
attribute [local go_sem] Oper.semAt_some
theorem zHs (a b:List UInt8):(⟨a.toArray⟩:ByteArray)++⟨b.toArray⟩=⟨(a++b).toArray⟩:=by
 apply ByteArray.ext
 rw [ByteArray.data_append];simp
def u8of (n:Int):ByteArray:=⟨#[UInt8.ofNat n.toNat]⟩
theorem yAg (n:Int):(u8of n).size=1:=rfl
theorem yAh (w:World) (x:Int) (h0:0≤x) (h1:x<256) :
  (convert 83 9 (.slice (some ⟨w.heap.size,0,none⟩) 1 1)).run Tryz.prog (w.alloc (.cells #[.int .u8 x] 5))=.ok (.string (u8of x)) (w.alloc (.cells #[.int .u8 x] 5)):=by
 refine Lib.run_convert_whole _ _ 5 _ Tryz.underlying83 Tryz.underlying5 Tryz.underlying9 w.heap.size 0 (u8of x) (fun i hi=>?_) 1;have hi':i<1:=hi;obtain rfl:i=0:=by omega
 rw [show (w.alloc (.cells #[.int .u8 x] 5)).cell? ⟨w.heap.size,0+0,none⟩=some (.int .u8 x) by simp]
 have:((u8of x)[0]'hi).toNat=x.toNat:=by
  show (UInt8.ofNat x.toNat).toNat=_
  rw [UInt8.toNat_ofNat'];omega
 rw [this]
 congr 2;omega
theorem yAi (w:World) (b:Nat) (x:Int) (h0:0≤x) (h1:x<256) (hc:w.cell? ⟨b,0,none⟩=some (.int .u8 x)) :
  (convert 83 9 (.slice (some ⟨b,0,none⟩) 1 1)).run Tryz.prog w=.ok (.string (u8of x)) w:=by
 refine Lib.run_convert_whole _ _ 5 _ Tryz.underlying83 Tryz.underlying5 Tryz.underlying9 b 0 (u8of x) (fun i hi=>?_) 1;have hi':i<1:=hi;obtain rfl:i=0:=by omega
 rw [show w.cell? ⟨b,0+0,none⟩=some (.int .u8 x) from hc]
 have:((u8of x)[0]'hi).toNat=x.toNat:=by
  show (UInt8.ofNat x.toNat).toNat=_
  rw [UInt8.toNat_ofNat'];omega
 rw [this]
 congr 2;omega
theorem zRd:∀(f n:Nat),n<128 ^ (f+1)→f≤8→∀w:World,Calls Tryz.prog 147 #[.int .i64 n] w fun e w'=>e=.returned (.string ⟨(digs f n).toArray⟩)∧Bw w w':=by
 have one:∀(n:Nat) (w:World),n<128→Calls Tryz.prog 147 #[.int .i64 n] w fun e w'=>e=.returned (.string ⟨#[UInt8.ofNat n]⟩)∧Bw w w':=by
  intro n w h1;have hd:decide ((n:Int)<128)=true:=decide_eq_true (by omega);have hc:=yAh w n (by omega) (by omega);have hw:IntKind.wrap .u8 (n:Int)=(n:Int):=by simp [IntKind.wrap,IntKind.signed,IntKind.bits];omega
  have he:u8of (n:Int)=⟨#[UInt8.ofNat n]⟩:=rfl;rw [he] at hc;clear he
  go_enter Tryz.func147,Tryz.ntmps147
  go_wp2;go_ret;exact ⟨rfl,zAa _ _⟩
 intro f
 induction f with
 | zero=>intro n hn _ w;exact one n w (by simpa using hn)
 | succ f ih=>
 intro n hn hf w
 by_cases h128:n<128
 ·rw [show digs (f+1) n=[UInt8.ofNat n] by rw [digs,if_pos h128]];exact one n w h128
 have hd:decide ((n:Int)<128)=false:=decide_eq_false (by omega);have hn63:n<9223372036854775808:=Nat.lt_of_lt_of_le hn (Nat.le_trans (Nat.pow_le_pow_right (by omega) (show f+2≤9 by omega)) (by decide));replace ih:=fun m h=>ih m h (by omega)
 go_enter Tryz.func147,Tryz.ntmps147
 go_wp2;refine wp_region_noPanic (zCl (fun _=>True) (.take 0 (.take 1 (.take 2 (.take 3 (.take 6 (.take 7 (.two 4 8 (.two 5 8 (.one 8 (.one 9 (.one 10 .done))) (.one 5 (.one 9 (.one 10 .done)))) (.one 4 (.one 5 (.one 9 (.one 10 .done))))))))))) zBm (by kernel_rfl) (fun _ _ _ _ _ h=>h) trivial ?_)
 iterate 6 (refine zEf (v:=?_) rfl (by rfl) ?_ ?_;rotate_left;(focus (intro wq hSw;(try dsimp only at hSw);go_simp;(try rw [if_neg (by first|omega|(simp;omega))]);(try with_reducible rfl)));(try simp only [gA,gB,gC,Act.put,gD,gE,gF]))
 have hcv:IntKind.u8.wrap (IntKind.i64.wrap (128+(n:Int).tmod 128))=((n % 128+128:Nat):Int):=by
  have:(n:Int).tmod 128=(n:Int) % 128:=Int.tmod_eq_emod_of_nonneg (by omega);simp [IntKind.wrap,IntKind.signed,IntKind.bits,this];omega
 have hqv:IntKind.i64.wrap ((n:Int) / 128)=((n / 128:Nat):Int):=by
  simp [IntKind.wrap,IntKind.signed,IntKind.bits];omega
 have HP:=lH (ih (n / 128) (by rw [Nat.pow_succ] at hn;exact Nat.div_lt_of_lt_mul (by rw [Nat.mul_comm];exact hn)));have hc0:(0:Int)≤((n % 128+128:Nat):Int):=by omega
 have hc9:((n % 128+128:Nat):Int)<256:=by omega
 (try rw [hcv])
 (try rw [hqv])
 have HC:=lH (fun (w:World) (b:Nat)=>yAi w b ((n % 128+128:Nat):Int) hc0 hc9);have hdl:=zGd f (n / 128);have hsz:¬(9223372036854775807<(u8of ((n % 128+128:Nat):Int)).size+(⟨(digs f (n / 128)).toArray⟩:ByteArray).size):=by rw [yAg,zAt];omega
 have hxs:u8of ((n % 128+128:Nat):Int)++(⟨(digs f (n / 128)).toArray⟩:ByteArray)=⟨(digs (f+1) n).toArray⟩:=by
  rw [show digs (f+1) n=[UInt8.ofNat (n % 128+128)]++digs f (n / 128) by rw [digs,if_neg h128];rfl,←zHs];rfl
 obtain ⟨XS,hX2⟩:∃X,(⟨(digs (f+1) n).toArray⟩:ByteArray)=X:=⟨_,rfl⟩;rw [hX2] at hxs;have HX2:=lH hX2;clear hX2;generalize (⟨(digs f (n / 128)).toArray⟩:ByteArray)=U at *;generalize ((n / 128:Nat):Int)=q at *;generalize ((n % 128+128:Nat):Int)=c at *;generalize u8of c=V at *;have HXS:=lH hxs;clear hcv hqv hc0 hc9 hdl hxs hn ih h128;refine zH ?_ ?_
 ·(refine zAj rfl (by rfl) (fun K hK=>?_);go_simp)
  have hW:Bw w (w.alloc (.cells #[.int .u8 c] 5)).drew:=(zAa _ _).drew;have hc1:(w.alloc (.cells #[.int .u8 c] 5)).drew.cell? ⟨w.heap.size,0,none⟩=some (.int .u8 c):=by simp
  generalize (w.alloc (.cells #[.int .u8 c] 5)).drew=W1 at *;refine hK.out _ _ trivial ?_;clear hK K
  (try simp only [gA,gB,gC,Act.put,gD,gE,gF])
  refine zH ?_ ?_
  ·have kc:=HC.o W1 _ hc1
   (refine zAj rfl (by rfl) (fun K hK=>?_);go_simp)
   (refine hK.out _ _ trivial ?_;clear hK K;(try simp only [gA,gB,gC,Act.put,gD,gE,gF]))
   (refine zAj rfl (by rfl) (fun K hK=>?_);go_simp)
   refine (HP.o _).mono ?_;rintro e w2 ⟨rfl,hb⟩
   (try go_simp)
   have hB2:=zA hW hb;clear hc1 kc hW hb
   (refine hK.out _ _ trivial ?_;clear hK K;(try simp only [gA,gB,gC,Act.put,gD,gE,gF]))
   (refine zAj rfl (by rfl) (fun K hK=>?_);go_simp)
   (refine hK.out _ _ trivial ?_;clear hK K;(try simp only [gA,gB,gC,Act.put,gD,gE,gF]))
   (refine zAj rfl (by rfl) (fun K hK=>?_);go_simp)
   (refine hK.out _ _ trivial ?_;clear hK K;(try simp only [gA,gB,gC,Act.put,gD,gE,gF]))
   refine zCd ?_;refine NoPanic.normal ?_;go_wp2;go_ret;exact ⟨by rw [HXS.o,HX2.o];rfl,hB2⟩
  ·(refine zAj rfl (by rfl) (fun K hK=>?_);go_simp)
   refine (HP.o _).mono ?_;rintro e w2 ⟨rfl,hb⟩
   (try go_simp)
   have hB2:=zA hW hb;have hc2:w2.cell? ⟨w.heap.size,0,none⟩=some (.int .u8 c):=((yFe hb).1 _ _ (zEe hc1)).trans hc1;have kc:=HC.o w2 _ hc2;clear hc1 hW hb
   (refine hK.out _ _ trivial ?_;clear hK K;(try simp only [gA,gB,gC,Act.put,gD,gE,gF]))
   (refine zAj rfl (by rfl) (fun K hK=>?_);go_simp)
   (refine hK.out _ _ trivial ?_;clear hK K;(try simp only [gA,gB,gC,Act.put,gD,gE,gF]))
   (refine zAj rfl (by rfl) (fun K hK=>?_);go_simp)
   (refine hK.out _ _ trivial ?_;clear hK K;(try simp only [gA,gB,gC,Act.put,gD,gE,gF]))
   (refine zAj rfl (by rfl) (fun K hK=>?_);go_simp)
   (refine hK.out _ _ trivial ?_;clear hK K;(try simp only [gA,gB,gC,Act.put,gD,gE,gF]))
   refine zCd ?_;refine NoPanic.normal ?_;go_wp2;go_ret;exact ⟨by rw [HXS.o,HX2.o];rfl,hB2⟩
 ·(refine zAj rfl (by rfl) (fun K hK=>?_);go_simp)
  refine (HP.o _).mono ?_;rintro e w2 ⟨rfl,hb⟩
  (try go_simp)
  have hB2:Bw w (w2.alloc (.cells #[.int .u8 c] 5)):=zA (zA (zAl w).drew hb) (zAa _ _);have hc2:(w2.alloc (.cells #[.int .u8 c] 5)).cell? ⟨w2.heap.size,0,none⟩=some (.int .u8 c):=by simp
  have kc:=HC.o (w2.alloc (.cells #[.int .u8 c] 5)) _ hc2;clear hb hc2
  (refine hK.out _ _ trivial ?_;clear hK K;(try simp only [gA,gB,gC,Act.put,gD,gE,gF]))
  (refine zAj rfl (by rfl) (fun K hK=>?_);go_simp)
  (refine hK.out _ _ trivial ?_;clear hK K;(try simp only [gA,gB,gC,Act.put,gD,gE,gF]))
  (refine zAj rfl (by rfl) (fun K hK=>?_);go_simp)
  (refine hK.out _ _ trivial ?_;clear hK K;(try simp only [gA,gB,gC,Act.put,gD,gE,gF]))
  (refine zAj rfl (by rfl) (fun K hK=>?_);go_simp)
  (refine hK.out _ _ trivial ?_;clear hK K;(try simp only [gA,gB,gC,Act.put,gD,gE,gF]))
  (refine zAj rfl (by rfl) (fun K hK=>?_);go_simp)
  (refine hK.out _ _ trivial ?_;clear hK K;(try simp only [gA,gB,gC,Act.put,gD,gE,gF]))
  refine zCd ?_;refine NoPanic.normal ?_;go_wp2;go_ret;exact ⟨by rw [HXS.o,HX2.o];rfl,hB2⟩
theorem zRe (n:Int) (w:World):Calls Tryz.prog 100 #[.int .i64 n] w fun e w'=>(∃k,e=.returned (.tuple #[.string ⟨(putI n).toArray⟩,.int .i64 k]))∧Below w.heap.size w w':=by
  by_cases h0:n<0
  · have q0:decide (n<0)=true:=decide_eq_true h0
    have e:putI n=[]:=by unfold putI;rw [if_neg (by omega)]
    rw [e]
    clear h0 e
    go_enter Tryz.func100,Tryz.ntmps100
    go_wp2
    go_ret2
    exact ⟨⟨2,rfl⟩,zAl _⟩
  have q0:decide (n<0)=false:=decide_eq_false h0
  by_cases h1:1099511627776<n
  · have q1:decide (1099511627776<n)=true:=decide_eq_true h1
    have e:putI n=[]:=by unfold putI;rw [if_neg (by omega)]
    rw [e]
    clear h0 h1 e
    go_enter Tryz.func100,Tryz.ntmps100
    go_wp2
    go_ret2
    exact ⟨⟨2,rfl⟩,zAl _⟩
  have q1:decide (1099511627776<n)=false:=decide_eq_false h1
  obtain ⟨m,rfl⟩:=Int.eq_ofNat_of_zero_le (show 0≤n by omega)
  have HC:=Lib.hid (zRd 8 m (by omega) (by omega))
  have HE:Hid (putI (m:Int)=digs 8 m):=by show _=_;unfold putI;rw [if_pos ⟨by omega,by omega⟩,Int.toNat_natCast];rfl
  rw [HE.o]
  generalize digs 8 m=D at *
  clear h0 h1 HE
  go_enter Tryz.func100,Tryz.ntmps100
  go_wp2_with (fail)
  refine (HC.o _).mono ?_
  rintro e w' ⟨rfl,hb⟩
  go_wp2
  go_ret2
  exact ⟨⟨0,rfl⟩,hb⟩
theorem zOy (s:ByteArray) (hs:s.size≤1000000) (w:World):Calls Tryz.prog 101 #[.string s] w fun e w'=>(∃k,e=.returned (.tuple #[.string ⟨(putT s).toArray⟩,.int .i64 k]))∧Bw w w':=by
 by_cases h:s.size≤65536
 ·have q:decide ((65536:Int)<(s.size:Int))=false:=decide_eq_false (by omega)
  have HC:=lH (zRd 8 s.size (by omega) (by omega));have hdl:=zGd 8 s.size;have hsz:¬(9223372036854775807<(⟨(digs 8 s.size).toArray⟩:ByteArray).size+s.size):=by rw [zAt];omega
  have HE:Hid ((⟨(digs 8 s.size).toArray⟩:ByteArray)++s=⟨(putT s).toArray⟩):=by
   show _=_
   unfold putT;rw [if_pos h,←zHs];rfl
  generalize (⟨(putT s).toArray⟩:ByteArray)=T at *;generalize (⟨(digs 8 s.size).toArray⟩:ByteArray)=D at *;clear h hdl
  go_enter Tryz.func101,Tryz.ntmps101
  go_wp2_with (fail)
  refine (HC.o _).mono ?_;rintro e w' ⟨rfl,hb⟩;go_wp2;go_ret2;exact ⟨⟨0,by rw [HE.o];rfl⟩,hb⟩
 ·have q:decide ((65536:Int)<(s.size:Int))=true:=decide_eq_true (by omega)
  have e:putT s=[]:=by unfold putT;rw [if_neg h]
  rw [e];clear h e
  go_enter Tryz.func101,Tryz.ntmps101
  go_wp2;go_ret2;exact ⟨⟨4,rfl⟩,zAl _⟩
theorem zBu (n:Int) (w:World):Calls Tryz.prog 52 #[.int .i64 n] w fun e w'=>e=.returned (.string ⟨(putI n).toArray⟩)∧Bw w w':=by
 have HC:=lH (zRe n);generalize putI n=D at *
 go_enter Tryz.func52,Tryz.ntmps52
 go_wp2_with (fail)
 refine (HC.o _).mono ?_;rintro e w' ⟨⟨k,rfl⟩,hb⟩;go_wp2;go_ret;exact ⟨rfl,hb⟩
theorem zFp (s:ByteArray) (hs:s.size≤1000000) (w:World):Calls Tryz.prog 53 #[.string s] w fun e w'=>e=.returned (.string ⟨(putT s).toArray⟩)∧Bw w w':=by
 have HC:=lH (zOy s hs);generalize putT s=D at *
 go_enter Tryz.func53,Tryz.ntmps53
 go_wp2_with (fail)
 refine (HC.o _).mono ?_;rintro e w' ⟨⟨k,rfl⟩,hb⟩;go_wp2;go_ret;exact ⟨rfl,hb⟩
theorem zNj (t:Bool) (w:World):Calls Tryz.prog 102 #[.bool t] w fun e w'=>e=.returned (.string ⟨(putB t).toArray⟩)∧Bw w w':=by
 have HN:=lH zBu
 cases t
 all_goals
  unfold putB;simp only [Bool.false_eq_true,if_false,if_true]
  go_enter Tryz.func102,Tryz.ntmps102
  go_wp2_with (fail)
  refine (HN.o _ _).mono ?_;rintro e w' ⟨rfl,hb⟩;go_wp2;go_ret;exact ⟨rfl,hb⟩
theorem yAj (s:ByteArray):s++⟨([]:List UInt8).toArray⟩=s:=by
 apply ByteArray.ext
 rw [ByteArray.data_append];simp
def QV (L:List Value) (i:Nat) (v:Value) (_:World):Prop:=L[i]?=some v
theorem QV.eq {L:List Value} {i:Nat} {v u:Value} {w:World} (h:QV L i v w) (k:L[i]?=some u):v=u:=Option.some.inj (h.symm.trans k)
section
variable {o:Oper} {fa:Act} {w:World} {K:Act→World→Prop} {Q:Exit→Act→World→Prop}
theorem zOz {P:Program} {ops:Array Oper} {Q:Exit→Act→World→Prop} {l:List Oper} {a fa:Act} {w:World} (h:a=fa) (k:wpList P ops Q l fa w):wpList P ops Q l a w:=h▸k
theorem yAk {x:Operand} {v:Value} (ho:o.op=.move x) (hx:fa.eval x=v) (h:K (fa.put o.dst v) w):Oper.wp Tryz.prog o fa w K Q:=by
 unfold Oper.wp execOp;simp only [ho]
 rw [hx];exact h
theorem zCh {g:Operand} {f:FuncId} {args:Array Operand} {ats:Array TypeId} {vs:Array Value} (ho:o.op=.call { callee:=.value g,args:=args,argTypes:=ats }) (hg:fa.eval g=.func (.func f) #[] #[]) (hv:args.map fa.eval=vs) (he:Enters Tryz.prog f)
  (h:Calls Tryz.prog f vs w fun e w'=>∃v,e=.returned v∧K (fa.put o.dst v) w'):Oper.wp Tryz.prog o fa w K Q:=by
 have hx:(execOp fa.eval o).run Tryz.prog w=.ok (.enter f vs) w:=by
  unfold execOp;simp only [ho,resolve,hg,hv]
  simp [invoke,go_sem]
  exact he vs w
 unfold Oper.wp;rw [hx];refine h.mono ?_;rintro e w' ⟨v,rfl,hk⟩;exact hk
theorem zDz {x y:Operand} {a b:ByteArray} (ho:o.op=.binOp .add 9 x y 9) (hx:fa.eval x=.string a) (hy:fa.eval y=.string b) (hs:¬9223372036854775807<a.size+b.size) (h:K (fa.put o.dst (.string (a++b))) w):Oper.wp Tryz.prog o fa w K Q:=by
 unfold Oper.wp execOp;simp only [ho,hx,hy]
 go_simp
 exact h
theorem zWo {x:Operand} {B:Nat} (ho:o.op=.fieldAddr 60 x 0) (hx:fa.eval x=.pointer (some ⟨B,0,none⟩)) (h:K (fa.put o.dst (.pointer (some ⟨B,0,none⟩))) w):Oper.wp Tryz.prog o fa w K Q:=by
 unfold Oper.wp execOp;simp only [ho,hx]
 go_simp
 exact h
theorem zWp {x:Operand} {B:Nat} (ho:o.op=.fieldAddr 60 x 1) (hx:fa.eval x=.pointer (some ⟨B,0,none⟩)) (h:K (fa.put o.dst (.pointer (some ⟨B,1,none⟩))) w):Oper.wp Tryz.prog o fa w K Q:=by
 unfold Oper.wp execOp;simp only [ho,hx]
 go_simp
 exact h
theorem zWq {x:Operand} {B:Nat} (ho:o.op=.fieldAddr 60 x 2) (hx:fa.eval x=.pointer (some ⟨B,0,none⟩)) (h:K (fa.put o.dst (.pointer (some ⟨B,2,none⟩))) w):Oper.wp Tryz.prog o fa w K Q:=by
 unfold Oper.wp execOp;simp only [ho,hx]
 go_simp
 exact h
theorem zWr {x:Operand} {B:Nat} (ho:o.op=.fieldAddr 60 x 4) (hx:fa.eval x=.pointer (some ⟨B,0,none⟩)) (h:K (fa.put o.dst (.pointer (some ⟨B,4,none⟩))) w):Oper.wp Tryz.prog o fa w K Q:=by
 unfold Oper.wp execOp;simp only [ho,hx]
 go_simp
 exact h
theorem zWs {x:Operand} {B:Nat} (ho:o.op=.fieldAddr 60 x 5) (hx:fa.eval x=.pointer (some ⟨B,0,none⟩)) (h:K (fa.put o.dst (.pointer (some ⟨B,5,none⟩))) w):Oper.wp Tryz.prog o fa w K Q:=by
 unfold Oper.wp execOp;simp only [ho,hx]
 go_simp
 exact h
theorem zWt {x:Operand} {B:Nat} (ho:o.op=.fieldAddr 62 x 0) (hx:fa.eval x=.pointer (some ⟨B,0,none⟩)) (h:K (fa.put o.dst (.pointer (some ⟨B,0,none⟩))) w):Oper.wp Tryz.prog o fa w K Q:=by
 unfold Oper.wp execOp;simp only [ho,hx]
 go_simp
 exact h
theorem zWu {x:Operand} {B:Nat} (ho:o.op=.fieldAddr 62 x 1) (hx:fa.eval x=.pointer (some ⟨B,0,none⟩)) (h:K (fa.put o.dst (.pointer (some ⟨B,1,none⟩))) w):Oper.wp Tryz.prog o fa w K Q:=by
 unfold Oper.wp execOp;simp only [ho,hx]
 go_simp
 exact h
theorem zWv {x:Operand} {B:Nat} (ho:o.op=.fieldAddr 62 x 2) (hx:fa.eval x=.pointer (some ⟨B,0,none⟩)) (h:K (fa.put o.dst (.pointer (some ⟨B,2,none⟩))) w):Oper.wp Tryz.prog o fa w K Q:=by
 unfold Oper.wp execOp;simp only [ho,hx]
 go_simp
 exact h
theorem zWw {x:Operand} {B:Nat} (ho:o.op=.fieldAddr 62 x 3) (hx:fa.eval x=.pointer (some ⟨B,0,none⟩)) (h:K (fa.put o.dst (.pointer (some ⟨B,3,none⟩))) w):Oper.wp Tryz.prog o fa w K Q:=by
 unfold Oper.wp execOp;simp only [ho,hx]
 go_simp
 exact h
theorem zWx {x:Operand} {B:Nat} (ho:o.op=.fieldAddr 62 x 4) (hx:fa.eval x=.pointer (some ⟨B,0,none⟩)) (h:K (fa.put o.dst (.pointer (some ⟨B,4,none⟩))) w):Oper.wp Tryz.prog o fa w K Q:=by
 unfold Oper.wp execOp;simp only [ho,hx]
 go_simp
 exact h
theorem zWy {x:Operand} {B:Nat} (ho:o.op=.fieldAddr 39 x 0) (hx:fa.eval x=.pointer (some ⟨B,0,none⟩)) (h:K (fa.put o.dst (.pointer (some ⟨B,0,none⟩))) w):Oper.wp Tryz.prog o fa w K Q:=by
 unfold Oper.wp execOp;simp only [ho,hx]
 go_simp
 exact h
theorem zWz {x:Operand} {B:Nat} (ho:o.op=.fieldAddr 39 x 1) (hx:fa.eval x=.pointer (some ⟨B,0,none⟩)) (h:K (fa.put o.dst (.pointer (some ⟨B,1,none⟩))) w):Oper.wp Tryz.prog o fa w K Q:=by
 unfold Oper.wp execOp;simp only [ho,hx]
 go_simp
 exact h
theorem zX {x:Operand} {B:Nat} (ho:o.op=.fieldAddr 39 x 2) (hx:fa.eval x=.pointer (some ⟨B,0,none⟩)) (h:K (fa.put o.dst (.pointer (some ⟨B,2,none⟩))) w):Oper.wp Tryz.prog o fa w K Q:=by
 unfold Oper.wp execOp;simp only [ho,hx]
 go_simp
 exact h
theorem zXa {x:Operand} {B:Nat} (ho:o.op=.fieldAddr 39 x 3) (hx:fa.eval x=.pointer (some ⟨B,0,none⟩)) (h:K (fa.put o.dst (.pointer (some ⟨B,3,none⟩))) w):Oper.wp Tryz.prog o fa w K Q:=by
 unfold Oper.wp execOp;simp only [ho,hx]
 go_simp
 exact h
theorem zXb {x:Operand} {B:Nat} (ho:o.op=.fieldAddr 39 x 4) (hx:fa.eval x=.pointer (some ⟨B,0,none⟩)) (h:K (fa.put o.dst (.pointer (some ⟨B,4,none⟩))) w):Oper.wp Tryz.prog o fa w K Q:=by
 unfold Oper.wp execOp;simp only [ho,hx]
 go_simp
 exact h
theorem zHt {x:Operand} {B j:Nat} {i:Int} (ho:o.op=.load 3 x) (hx:fa.eval x=.pointer (some ⟨B,j,none⟩)) (_hB:B<w.heap.size) (hc:w.cell? ⟨B,j,none⟩=some (.int .i64 i)) (h:K (fa.put o.dst (.int .i64 i)) w):Oper.wp Tryz.prog o fa w K Q:=by
 unfold Oper.wp execOp;simp only [ho,hx]
 go_simp
 exact h
theorem zJl {x:Operand} {B j:Nat} {i:ByteArray} (ho:o.op=.load 9 x) (hx:fa.eval x=.pointer (some ⟨B,j,none⟩)) (_hB:B<w.heap.size) (hc:w.cell? ⟨B,j,none⟩=some (.string i)) (h:K (fa.put o.dst (.string i)) w):Oper.wp Tryz.prog o fa w K Q:=by
 unfold Oper.wp execOp;simp only [ho,hx]
 go_simp
 exact h
theorem zUq {x:Operand} {B j:Nat} {i:Bool} (ho:o.op=.load 4 x) (hx:fa.eval x=.pointer (some ⟨B,j,none⟩)) (_hB:B<w.heap.size) (hc:w.cell? ⟨B,j,none⟩=some (.bool i)) (h:K (fa.put o.dst (.bool i)) w):Oper.wp Tryz.prog o fa w K Q:=by
 unfold Oper.wp execOp;simp only [ho,hx]
 go_simp
 exact h
theorem yCz {x:Operand} {B j:Nat} {a:Option Addr} {n c:Nat} (ho:o.op=.load 58 x) (hx:fa.eval x=.pointer (some ⟨B,j,none⟩)) (_hB:B<w.heap.size) (hc:w.cell? ⟨B,j,none⟩=some (.slice a n c)) (h:K (fa.put o.dst (.slice a n c)) w):Oper.wp Tryz.prog o fa w K Q:=by
 unfold Oper.wp execOp;simp only [ho,hx]
 go_simp
 exact h
theorem yD {x:Operand} {B j:Nat} {a:Option Addr} {n c:Nat} (ho:o.op=.load 50 x) (hx:fa.eval x=.pointer (some ⟨B,j,none⟩)) (_hB:B<w.heap.size) (hc:w.cell? ⟨B,j,none⟩=some (.slice a n c)) (h:K (fa.put o.dst (.slice a n c)) w):Oper.wp Tryz.prog o fa w K Q:=by
 unfold Oper.wp execOp;simp only [ho,hx]
 go_simp
 exact h
theorem zUr {x:Operand} {B j:Nat} {a:Option Addr} {n c:Nat} (ho:o.op=.load 37 x) (hx:fa.eval x=.pointer (some ⟨B,j,none⟩)) (_hB:B<w.heap.size) (hc:w.cell? ⟨B,j,none⟩=some (.slice a n c)) (h:K (fa.put o.dst (.slice a n c)) w):Oper.wp Tryz.prog o fa w K Q:=by
 unfold Oper.wp execOp;simp only [ho,hx]
 go_simp
 exact h
theorem yEs {x:Operand} {a:Option Addr} {n c:Nat} (ho:o.op=.call { callee:=.builtin .len,args:=#[x],argTypes:=#[58] }) (hx:fa.eval x=.slice a n c) (h:K (fa.put o.dst (.int .i64 n)) w):Oper.wp Tryz.prog o fa w K Q:=by
 unfold Oper.wp execOp;simp only [ho,resolve,invoke,List.map_toArray,List.map_cons,List.map_nil,hx]
 go_simp
 exact h
theorem yEt {x:Operand} {a:Option Addr} {n c:Nat} (ho:o.op=.call { callee:=.builtin .len,args:=#[x],argTypes:=#[50] }) (hx:fa.eval x=.slice a n c) (h:K (fa.put o.dst (.int .i64 n)) w):Oper.wp Tryz.prog o fa w K Q:=by
 unfold Oper.wp execOp;simp only [ho,resolve,invoke,List.map_toArray,List.map_cons,List.map_nil,hx]
 go_simp
 exact h
end
theorem zCu {a b:ByteArray} {n:Nat} (h:a.size+b.size≤n) (hn:n≤9223372036854775807):¬9223372036854775807<a.size+b.size:=by omega
def QX (x:Ex):Prop:=∀(w:World) (xa:Option Addr) (xc:Nat),Reads w [] (subsT x.subs) (.slice xa x.subs.length xc)→EncOk x→SmX 40000 x→(encX x).length≤10000000000000→nodesN x≤1000000 →
  Calls Tryz.prog 103 #[exV x xa xc] w fun e w'=>e=.returned (.string ⟨(encX x).toArray⟩)∧Below w.heap.size w w'
theorem yAl (x:Ex):QX x:=by
 refine Ex.ind (P:=QX) (fun x ih=>?_) x;intro w xa xc hx hok hs hln hnn;have HA:=lH (zAa w (.cells (xA x xa xc) 60));have HXB:=lH (CBox.new w 60 (xA x xa xc));have hnl:=zBq x.subs;have hne:=zBc x
 have HE:Hid ((⟨(encX x).toArray⟩:ByteArray)=(⟨(putI x.kind).toArray⟩++⟨(putT x.name).toArray⟩++⟨(putT x.more).toArray⟩++⟨(putI (twice x.num)).toArray⟩++⟨(putI x.den).toArray⟩++⟨(putI x.subs.length).toArray⟩)++⟨(encL (x.subs.drop 0)).toArray⟩):=by
  show _=_
  simp only [zHs,List.append_assoc,List.drop_zero]
  rw [zOl]
 have hlx:(encL x.subs).length≤10000000000000:=by
  rw [zOl] at hln;simp only [List.length_append] at hln
  omega
 have HIH:Hid (∀(i:Nat) (y:Ex),x.subs[i]?=some y→∀(W:World) (ya:Option Addr) (yc:Nat),Reads W [] (subsT y.subs) (.slice ya y.subs.length yc)→Calls Tryz.prog 103 #[exV y ya yc] W fun e w'=>e=.returned (.string ⟨(encX y).toArray⟩)∧Bw W w'):=fun i y hy W ya yc h=>by
  have hm:=List.mem_of_getElem? hy;have h1:=congrArg List.length (zOt hy);have h2:=zCw hm
  have h3:(encL (x.subs.drop i)).length≤(encL x.subs).length:=by
   conv=>rhs;rw [←List.take_append_drop i x.subs]
   rw [zKx,zKx,List.flatMap_append,List.length_append];omega
  rw [List.length_append] at h1;exact ih y hm W ya yc h (hok.subs y hm) (hs.subs y hm) (by omega) (by omega)
 have hnm:=hs.name;have hmr:=hs.more;have hnum:=hok.num;have HC0:=lH (zBu x.kind);have HC1:=lH (zFp x.name (by omega));have HC2:=lH (zFp x.more (by omega));have HC3:=lH (zBu (twice x.num));have HC4:=lH (zBu x.den);have HC5:=lH (zBu x.subs.length);have z0:(⟨(putI x.kind).toArray⟩:ByteArray).size≤100000:=by rw [zAt];have:=zBf x.kind;omega
 have z1:(⟨(putT x.name).toArray⟩:ByteArray).size≤100000:=by rw [zAt];have:=zCt x.name;omega
 have z2:(⟨(putT x.more).toArray⟩:ByteArray).size≤100000:=by rw [zAt];have:=zCt x.more;omega
 have z3:(⟨(putI (twice x.num)).toArray⟩:ByteArray).size≤100000:=by rw [zAt];have:=zBf (twice x.num);omega
 have z4:(⟨(putI x.den).toArray⟩:ByteArray).size≤100000:=by rw [zAt];have:=zBf x.den;omega
 have z5:(⟨(putI x.subs.length).toArray⟩:ByteArray).size≤100000:=by rw [zAt];have:=zBf x.subs.length;omega
 have HR:=lH (hx.below HA.o);have hsn:x.subs.length≤1000000:=by omega
 obtain ⟨T,hT⟩:∃T,(⟨(encX x).toArray⟩:ByteArray)=T:=⟨_,rfl⟩;rw [hT] at HE ⊢;generalize (⟨(putI x.kind).toArray⟩:ByteArray)=S0 at *;generalize (⟨(putT x.name).toArray⟩:ByteArray)=S1 at *;generalize (⟨(putT x.more).toArray⟩:ByteArray)=S2 at *;generalize (⟨(putI (twice x.num)).toArray⟩:ByteArray)=S3 at *;generalize (⟨(putI x.den).toArray⟩:ByteArray)=S4 at *;generalize (⟨(putI x.subs.length).toArray⟩:ByteArray)=S5 at *;clear hx hok hs ih hln hT hnm hmr hnl hne;obtain ⟨R,hR⟩:∃R,w.heap.size=R:=⟨_,rfl⟩;rw [hR] at HXB;have HZ:=lH hR
 unfold exV
 go_enter Tryz.func103,Tryz.ntmps103
 go_upto_region 1 with (fail)
 (try rw [hR])
 generalize World.alloc w _=W0 at *;clear hR;have x3:=HXB.o.cell (i:=3) (v:=.int .i64 x.num) rfl;have xl:=HXB.o.lt;have hdbl:decide (2 * x.num<0)=decide (x.num<0):=by simp only [decide_eq_decide];omega
 go_upto_if 10 with (fail)
 go_cut [3] from 10 to 13 (fun v wx=>v=.int .i64 (twice x.num)∧W0=wx)
 case first=>
  by_cases hneg:x.num<0
  ·have q1:decide (2 * x.num<0)=true:=decide_eq_true (by omega)
   have HTW:Hid (1 - 2 * x.num=twice x.num):=by show _=_;unfold twice;rw [if_pos hneg]
   clear hdbl;go_wp2;go_meet
   case rel=>exact ⟨by rw [←HTW.o],rfl⟩
  ·have q1:decide (2 * x.num<0)=false:=decide_eq_false (by omega)
   have HTW:Hid (2 * x.num=twice x.num):=by show _=_;unfold twice;rw [if_neg hneg]
   clear hdbl;go_wp2;go_meet
   case rel=>exact ⟨by rw [←HTW.o],rfl⟩
 case rest=>
 obtain ⟨rfl,rfl⟩:=hcut;clear x3 xl hdbl;go_upto_region 4 with (fail)
 refine wp_region_noPanic (zGn 23 (QV [.pointer (some ⟨R,0,none⟩),.int .i64 x.kind,.string S0,.pointer (some ⟨R,1,none⟩),.string x.name,.string S1,.string (S0++S1),.pointer (some ⟨R,2,none⟩),.string x.more,.string S2,.string (S0++S1++S2),.int .i64 (twice x.num),.string S3,.string (S0++S1++S2++S3),.pointer (some ⟨R,4,none⟩),.int .i64 x.den,.string S4,.string (S0++S1++S2++S3++S4),.pointer (some ⟨R,5,none⟩),.slice xa x.subs.length xc,.int .i64 x.subs.length,.string S5,.string (S0++S1++S2++S3++S4++S5)]) zBm (by kernel_rfl) (fun _ _ _ h=>h) (by kernel_rfl) (fun i v w w' h k=>h) ?_ ?_)
 ·show AllQ _ _ _ _ _ _ _ 0 (_::_)
  refine AllQ.step ?_ ?_
  ·intro fa vals w1 hf hbw hn
   refine ⟨(fun _ _ e=>by cases e),fun K hK=>?_⟩;exact zWo rfl ((hf.out 1 (by kernel_rfl)).trans rfl) (hK.out _ _ (zAl _) rfl)
  refine AllQ.step ?_ ?_
  ·intro fa vals w1 hf hbw hn
   refine ⟨(fun _ _ e=>by cases e),fun K hK=>?_⟩;exact zHt rfl ((hf.at_ 0 13 (by decide) rfl).trans ((hn 0 (by decide)).eq rfl)) ((HXB.o.below hbw).lt) ((HXB.o.below hbw).cell (i:=0) (v:=.int .i64 x.kind) rfl) (hK.out _ _ (zAl _) rfl)
  refine AllQ.step ?_ ?_
  ·intro fa vals w1 hf hbw hn
   refine ⟨(fun _ _ e=>by cases e),fun K hK=>?_⟩;exact zCh (vs:=#[.int .i64 x.kind]) rfl rfl (by simp only [List.map_toArray,List.map_cons,List.map_nil];rw [((hf.at_ 1 14 (by decide) rfl).trans ((hn 1 (by decide)).eq rfl))]) (enters_of Tryz.func52 (by kernel_rfl) rfl) ((HC0.o w1).mono fun e w2 h=>⟨_,h.1,hK.out _ _ h.2 rfl⟩)
  refine AllQ.step ?_ ?_
  ·intro fa vals w1 hf hbw hn
   refine ⟨(fun _ _ e=>by cases e),fun K hK=>?_⟩;exact zWp rfl ((hf.out 1 (by kernel_rfl)).trans rfl) (hK.out _ _ (zAl _) rfl)
  refine AllQ.step ?_ ?_
  ·intro fa vals w1 hf hbw hn
   refine ⟨(fun _ _ e=>by cases e),fun K hK=>?_⟩;exact zJl rfl ((hf.at_ 3 16 (by decide) rfl).trans ((hn 3 (by decide)).eq rfl)) ((HXB.o.below hbw).lt) ((HXB.o.below hbw).cell (i:=1) (v:=.string x.name) rfl) (hK.out _ _ (zAl _) rfl)
  refine AllQ.step ?_ ?_
  ·intro fa vals w1 hf hbw hn
   refine ⟨(fun _ _ e=>by cases e),fun K hK=>?_⟩;exact zCh (vs:=#[.string x.name]) rfl rfl (by simp only [List.map_toArray,List.map_cons,List.map_nil];rw [((hf.at_ 4 17 (by decide) rfl).trans ((hn 4 (by decide)).eq rfl))]) (enters_of Tryz.func53 (by kernel_rfl) rfl) ((HC1.o w1).mono fun e w2 h=>⟨_,h.1,hK.out _ _ h.2 rfl⟩)
  refine AllQ.step ?_ ?_
  ·intro fa vals w1 hf hbw hn
   refine ⟨(fun _ _ e=>by cases e),fun K hK=>?_⟩;exact zDz rfl ((hf.at_ 2 15 (by decide) rfl).trans ((hn 2 (by decide)).eq rfl)) ((hf.at_ 5 18 (by decide) rfl).trans ((hn 5 (by decide)).eq rfl)) (zCu (n:=1000000) (by (try simp only [ByteArray.size_append]);omega) (by omega)) (hK.out _ _ (zAl _) rfl)
  refine AllQ.step ?_ ?_
  ·intro fa vals w1 hf hbw hn
   refine ⟨(fun _ _ e=>by cases e),fun K hK=>?_⟩;exact zWq rfl ((hf.out 1 (by kernel_rfl)).trans rfl) (hK.out _ _ (zAl _) rfl)
  refine AllQ.step ?_ ?_
  ·intro fa vals w1 hf hbw hn
   refine ⟨(fun _ _ e=>by cases e),fun K hK=>?_⟩;exact zJl rfl ((hf.at_ 7 20 (by decide) rfl).trans ((hn 7 (by decide)).eq rfl)) ((HXB.o.below hbw).lt) ((HXB.o.below hbw).cell (i:=2) (v:=.string x.more) rfl) (hK.out _ _ (zAl _) rfl)
  refine AllQ.step ?_ ?_
  ·intro fa vals w1 hf hbw hn
   refine ⟨(fun _ _ e=>by cases e),fun K hK=>?_⟩;exact zCh (vs:=#[.string x.more]) rfl rfl (by simp only [List.map_toArray,List.map_cons,List.map_nil];rw [((hf.at_ 8 21 (by decide) rfl).trans ((hn 8 (by decide)).eq rfl))]) (enters_of Tryz.func53 (by kernel_rfl) rfl) ((HC2.o w1).mono fun e w2 h=>⟨_,h.1,hK.out _ _ h.2 rfl⟩)
  refine AllQ.step ?_ ?_
  ·intro fa vals w1 hf hbw hn
   refine ⟨(fun _ _ e=>by cases e),fun K hK=>?_⟩;exact zDz rfl ((hf.at_ 6 19 (by decide) rfl).trans ((hn 6 (by decide)).eq rfl)) ((hf.at_ 9 22 (by decide) rfl).trans ((hn 9 (by decide)).eq rfl)) (zCu (n:=1000000) (by (try simp only [ByteArray.size_append]);omega) (by omega)) (hK.out _ _ (zAl _) rfl)
  refine AllQ.step ?_ ?_
  ·intro fa vals w1 hf hbw hn
   refine ⟨(fun _ _ e=>by cases e),fun K hK=>?_⟩;exact yAk rfl ((hf.out 3 (by kernel_rfl)).trans rfl) (hK.out _ _ (zAl _) rfl)
  refine AllQ.step ?_ ?_
  ·intro fa vals w1 hf hbw hn
   refine ⟨(fun _ _ e=>by cases e),fun K hK=>?_⟩;exact zCh (vs:=#[.int .i64 (twice x.num)]) rfl rfl (by simp only [List.map_toArray,List.map_cons,List.map_nil];rw [((hf.at_ 11 24 (by decide) rfl).trans ((hn 11 (by decide)).eq rfl))]) (enters_of Tryz.func52 (by kernel_rfl) rfl) ((HC3.o w1).mono fun e w2 h=>⟨_,h.1,hK.out _ _ h.2 rfl⟩)
  refine AllQ.step ?_ ?_
  ·intro fa vals w1 hf hbw hn
   refine ⟨(fun _ _ e=>by cases e),fun K hK=>?_⟩;exact zDz rfl ((hf.at_ 10 23 (by decide) rfl).trans ((hn 10 (by decide)).eq rfl)) ((hf.at_ 12 25 (by decide) rfl).trans ((hn 12 (by decide)).eq rfl)) (zCu (n:=1000000) (by (try simp only [ByteArray.size_append]);omega) (by omega)) (hK.out _ _ (zAl _) rfl)
  refine AllQ.step ?_ ?_
  ·intro fa vals w1 hf hbw hn
   refine ⟨(fun _ _ e=>by cases e),fun K hK=>?_⟩;exact zWr rfl ((hf.out 1 (by kernel_rfl)).trans rfl) (hK.out _ _ (zAl _) rfl)
  refine AllQ.step ?_ ?_
  ·intro fa vals w1 hf hbw hn
   refine ⟨(fun _ _ e=>by cases e),fun K hK=>?_⟩;exact zHt rfl ((hf.at_ 14 27 (by decide) rfl).trans ((hn 14 (by decide)).eq rfl)) ((HXB.o.below hbw).lt) ((HXB.o.below hbw).cell (i:=4) (v:=.int .i64 x.den) rfl) (hK.out _ _ (zAl _) rfl)
  refine AllQ.step ?_ ?_
  ·intro fa vals w1 hf hbw hn
   refine ⟨(fun _ _ e=>by cases e),fun K hK=>?_⟩;exact zCh (vs:=#[.int .i64 x.den]) rfl rfl (by simp only [List.map_toArray,List.map_cons,List.map_nil];rw [((hf.at_ 15 28 (by decide) rfl).trans ((hn 15 (by decide)).eq rfl))]) (enters_of Tryz.func52 (by kernel_rfl) rfl) ((HC4.o w1).mono fun e w2 h=>⟨_,h.1,hK.out _ _ h.2 rfl⟩)
  refine AllQ.step ?_ ?_
  ·intro fa vals w1 hf hbw hn
   refine ⟨(fun _ _ e=>by cases e),fun K hK=>?_⟩;exact zDz rfl ((hf.at_ 13 26 (by decide) rfl).trans ((hn 13 (by decide)).eq rfl)) ((hf.at_ 16 29 (by decide) rfl).trans ((hn 16 (by decide)).eq rfl)) (zCu (n:=1000000) (by (try simp only [ByteArray.size_append]);omega) (by omega)) (hK.out _ _ (zAl _) rfl)
  refine AllQ.step ?_ ?_
  ·intro fa vals w1 hf hbw hn
   refine ⟨(fun _ _ e=>by cases e),fun K hK=>?_⟩;exact zWs rfl ((hf.out 1 (by kernel_rfl)).trans rfl) (hK.out _ _ (zAl _) rfl)
  refine AllQ.step ?_ ?_
  ·intro fa vals w1 hf hbw hn
   refine ⟨(fun _ _ e=>by cases e),fun K hK=>?_⟩;exact yCz rfl ((hf.at_ 18 31 (by decide) rfl).trans ((hn 18 (by decide)).eq rfl)) ((HXB.o.below hbw).lt) ((HXB.o.below hbw).cell (i:=5) (v:=.slice xa x.subs.length xc) rfl) (hK.out _ _ (zAl _) rfl)
  refine AllQ.step ?_ ?_
  ·intro fa vals w1 hf hbw hn
   refine ⟨(fun _ _ e=>by cases e),fun K hK=>?_⟩;exact yEs rfl ((hf.at_ 19 32 (by decide) rfl).trans ((hn 19 (by decide)).eq rfl)) (hK.out _ _ (zAl _) rfl)
  refine AllQ.step ?_ ?_
  ·intro fa vals w1 hf hbw hn
   refine ⟨(fun _ _ e=>by cases e),fun K hK=>?_⟩;exact zCh (vs:=#[.int .i64 x.subs.length]) rfl rfl (by simp only [List.map_toArray,List.map_cons,List.map_nil];rw [((hf.at_ 20 33 (by decide) rfl).trans ((hn 20 (by decide)).eq rfl))]) (enters_of Tryz.func52 (by kernel_rfl) rfl) ((HC5.o w1).mono fun e w2 h=>⟨_,h.1,hK.out _ _ h.2 rfl⟩)
  refine AllQ.step ?_ ?_
  ·intro fa vals w1 hf hbw hn
   refine ⟨(fun _ _ e=>by cases e),fun K hK=>?_⟩;exact zDz rfl ((hf.at_ 17 30 (by decide) rfl).trans ((hn 17 (by decide)).eq rfl)) ((hf.at_ 21 34 (by decide) rfl).trans ((hn 21 (by decide)).eq rfl)) (zCu (n:=1000000) (by (try simp only [ByteArray.size_append]);omega) (by omega)) (hK.out _ _ (zAl _) rfl)
  exact trivial
 intro vals W1 hbw hr;have e22:vals 22=.string (S0++S1++S2++S3++S4++S5):=(hr 22 (by decide)).eq rfl;refine zOz (h:=by simp only [fullR,dstR,List.getElem?_toArray,List.getElem?_cons_succ,List.getElem?_cons_zero,Option.bind_some,Act.put,List.setIfInBounds_toArray,List.set_cons_zero,List.set_cons_succ,e22];rfl) ?_;clear hr e22;generalize vals 0=q0;generalize vals 1=q1;generalize vals 2=q2;generalize vals 3=q3;generalize vals 4=q4;generalize vals 5=q5;generalize vals 6=q6;generalize vals 7=q7;generalize vals 8=q8
 generalize vals 9=q9;generalize vals 10=q10;generalize vals 11=q11;generalize vals 12=q12;generalize vals 13=q13;generalize vals 14=q14;generalize vals 15=q15;generalize vals 16=q16;generalize vals 17=q17;generalize vals 18=q18;generalize vals 19=q19;generalize vals 20=q20;generalize vals 21=q21;clear vals;have HX1:=lH (HXB.o.below hbw);have HB1:=lH (HA.o.trans (hbw.mono (HA.o.size)));have HR1:=lH (HR.o.below hbw);have hacc:(S0++S1++S2++S3++S4++S5).size≤1000000:=by simp only [ByteArray.size_append];omega
 generalize S0++S1++S2++S3++S4++S5=P at *;have HT0:Hid (T=P++⟨(encL (x.subs.drop 0)).toArray⟩):=HE;clear HC0 HC1 HC2 HC3 HC4 HC5 hbw HXB HR HE z0 z1 z2 z3 z4 z5 HA;go_wp2;refine NoPanic.normal ?_;go_wp2
 go_loopw [5,4] (fun iv sv wr=>∃(i:Nat) (s:ByteArray) (k:Nat),i≤x.subs.length∧iv=.int .i64 i∧sv=.string s∧Hid (s.size≤1000000+k∧k+(encL (x.subs.drop i)).length=(encL x.subs).length∧T=s++⟨(encL (x.subs.drop i)).toArray⟩)∧Hid (CBox wr R 60 (xA x xa xc))∧Hid (Reads wr [] (subsT x.subs) (.slice xa x.subs.length xc))∧Hid (Bw w wr)) (fun iv _ _=>x.subs.length - (intOf iv).toNat)
 case atStart=>
  exact ⟨0,P,0,Nat.zero_le _,rfl,rfl,⟨by omega,by simp,HT0.o⟩,HX1,HR1,HB1⟩
 case round=>
  clear HT0 HX1 HR1 HB1;obtain ⟨i,s,k,hil,rfl,rfl,HP,HX,HR,HB⟩:=hrel;have x5:=HX.o.cell (i:=5) (v:=.slice xa x.subs.length xc) rfl;have xl:=HX.o.lt
  by_cases hi:i<x.subs.length
  ·have hd:decide ((i:Int)<(x.subs.length:Int))=true:=decide_eq_true (by omega)
   have hir:(i:Int)<(x.subs.length:Int):=by omega
   obtain ⟨y,hy⟩:∃y,x.subs[i]?=some y:=⟨_,List.getElem?_eq_getElem hi⟩;obtain ⟨sb,so,ya,yc,rfl,hbr,y0,y1,y2,y3,y4,y5,hc1,hc2,hyr⟩:=zAx HR.o hy;obtain ⟨p1,p2,p3⟩:=HP.o;have h1:=zOt hy;have h2:=congrArg List.length h1;rw [List.length_append] at h2;have hsz:¬9223372036854775807<s.size+(⟨(encX y).toArray⟩:ByteArray).size:=by rw [zAt (encX y)];omega
   have HPN:Hid ((s++⟨(encX y).toArray⟩).size≤1000000+(k+(encX y).length)∧(k+(encX y).length)+(encL (x.subs.drop (i+1))).length=(encL x.subs).length∧T=(s++⟨(encX y).toArray⟩)++⟨(encL (x.subs.drop (i+1))).toArray⟩):=by
    refine ⟨by rw [ByteArray.size_append,zAt (encX y)];omega,by omega,?_⟩;rw [p3,h1,←zHs,ByteArray.append_assoc]
   have HC:=HIH.o i y hy wr ya yc hyr.out;unfold exV at HC;have HC:=lH HC;clear hy hyr h1 h2 p1 p2 p3 HP;generalize (⟨(encX y).toArray⟩:ByteArray)=Y at *;go_wp2_with (fail)
   refine HC.o.mono ?_;rintro e w7 ⟨rfl,hb7⟩;have HX7:=lH (HX.o.below hb7);have HR7:=lH (HR.o.below hb7);have HB7:=lH (zA HB.o hb7);clear hb7 HC HX HR HB x5 xl y0 y1 y2 y3 y4 y5 hbr;go_wp2;go_roundw
   case rel=>exact ⟨i+1,_,_,by omega,by go_num,rfl,HPN,HX7,HR7,HB7⟩
   case measure=>simp [intOf];omega
  ·have hd:decide ((i:Int)<(x.subs.length:Int))=false:=decide_eq_false (by omega)
   obtain ⟨p1,p2,p3⟩:=HP.o;have he:encL (x.subs.drop i)=[]:=by rw [List.drop_eq_nil_of_le (by omega)];rfl
   have HF:Hid (s=T):=by show _=_;rw [p3,he,yAj]
   clear p1 p2 p3 he HP;go_wp2;go_ret;exact ⟨by rw [HF.o];rfl,HB.o⟩
theorem yAm {T s:ByteArray} {l:List UInt8} (h:T=s++⟨l.toArray⟩):s.size+l.length=T.size:=by rw [h,ByteArray.size_append,zAt l]
theorem yDa {T s:ByteArray} {a b:List UInt8} (h:T=s++⟨(a++b).toArray⟩):T=(s++⟨a.toArray⟩)++⟨b.toArray⟩:=by rw [h,←zHs,ByteArray.append_assoc]
theorem zRf (ds:List ODecl) (w:World) (va:Option Addr) (vc:Nat) (hx:Reads w [] (declsT ds) (.slice va ds.length vc)) (hok:∀d∈ds,DecOk d) (hs:∀d∈ds,SmD d∧nodesN d.body≤1000000) (hln:(encDs ds).length≤10000000000000) (hdn:ds.length≤1000000) :
  Calls Tryz.prog 54 #[.slice va ds.length vc] w fun e w'=>e=.returned (.string ⟨(encDs ds).toArray⟩)∧Bw w w':=by
 have HR:=lH hx;have HOK:=lH hok;have HS:=lH hs;obtain ⟨T,hT⟩:∃T,(⟨(encDs ds).toArray⟩:ByteArray)=T:=⟨_,rfl⟩;have hTn:T.size≤10000000000000:=by rw [←hT,zAt (encDs ds)];exact hln
 have HT0:Hid (T=⟨(putI ds.length).toArray⟩++⟨((ds.drop 0).flatMap encD).toArray⟩):=by show _=_;rw [←hT,zHs];rfl
 have HC:=lH (zBu ds.length w);rw [hT];clear hx hok hs hln hT;generalize (⟨(putI ds.length).toArray⟩:ByteArray)=S0 at *
 go_enter Tryz.func54,Tryz.ntmps54
 go_wp2_with (fail)
 refine HC.o.mono ?_;rintro e w1 ⟨rfl,hb1⟩;have HB1:=lH hb1;clear hb1 HC;go_wp2
 go_loopw [4,3] (fun iv sv wr=>∃(i:Nat) (s:ByteArray),i≤ds.length∧iv=.int .i64 i∧sv=.string s∧Hid (T=s++⟨((ds.drop i).flatMap encD).toArray⟩)∧Hid (Bw w wr)) (fun iv _ _=>ds.length - (intOf iv).toNat)
 case atStart=>exact ⟨0,S0,Nat.zero_le _,rfl,rfl,HT0,HB1⟩
 case round=>
  clear HT0 HB1;obtain ⟨i,s,hil,rfl,rfl,HP,HB⟩:=hrel
  by_cases hi:i<ds.length
  ·have hd:decide ((i:Int)<(ds.length:Int))=true:=decide_eq_true (by omega)
   have hir:(i:Int)<(ds.length:Int):=by omega
   obtain ⟨d,hy⟩:∃d,ds[i]?=some d:=⟨_,List.getElem?_eq_getElem hi⟩;have hym:=List.mem_of_getElem? hy;obtain ⟨sb,so,an,cn,sa,cs,rfl,hbl2,zc,hn1,hn2,hyn,hc1,hc2,hyr⟩:=zAv HR.o hy;have hbr:sb<wr.heap.size:=Nat.lt_of_lt_of_le hbl2 HB.o.size;have y0:wr.cell? ⟨sb,so+i * 11,none⟩=some (.int .i64 d.id):=(HB.o.cell (p:=⟨sb,_,none⟩) hbl2).trans (zc 0 _ rfl);have y1:wr.cell? ⟨sb,so+i * 11+1,none⟩=some (.int .i64 d.kind):=(HB.o.cell (p:=⟨sb,_,none⟩) hbl2).trans (zc 1 _ rfl)
   have y2:wr.cell? ⟨sb,so+i * 11+2,none⟩=some (.bool d.pub):=(HB.o.cell (p:=⟨sb,_,none⟩) hbl2).trans (zc 2 _ rfl);have y3:wr.cell? ⟨sb,so+i * 11+3,none⟩=some (.slice an d.names.length cn):=(HB.o.cell (p:=⟨sb,_,none⟩) hbl2).trans (zc 3 _ rfl);have y4:wr.cell? ⟨sb,so+i * 11+4,none⟩=some (.bool d.doubt):=(HB.o.cell (p:=⟨sb,_,none⟩) hbl2).trans (zc 4 _ rfl);have y5:wr.cell? ⟨sb,so+i * 11+5,none⟩=some (.int .i64 d.body.kind):=(HB.o.cell (p:=⟨sb,_,none⟩) hbl2).trans (zc 5 _ rfl)
   have y6:wr.cell? ⟨sb,so+i * 11+6,none⟩=some (.string d.body.name):=(HB.o.cell (p:=⟨sb,_,none⟩) hbl2).trans (zc 6 _ rfl);have y7:wr.cell? ⟨sb,so+i * 11+7,none⟩=some (.string d.body.more):=(HB.o.cell (p:=⟨sb,_,none⟩) hbl2).trans (zc 7 _ rfl);have y8:wr.cell? ⟨sb,so+i * 11+8,none⟩=some (.int .i64 d.body.num):=(HB.o.cell (p:=⟨sb,_,none⟩) hbl2).trans (zc 8 _ rfl);have y9:wr.cell? ⟨sb,so+i * 11+9,none⟩=some (.int .i64 d.body.den):=(HB.o.cell (p:=⟨sb,_,none⟩) hbl2).trans (zc 9 _ rfl)
   have y10:wr.cell? ⟨sb,so+i * 11+10,none⟩=some (.slice sa d.body.subs.length cs):=(HB.o.cell (p:=⟨sb,_,none⟩) hbl2).trans (zc 10 _ rfl);obtain ⟨_,_,hne,hnc1,hnc2,hncell⟩:=(zAg.1 hyn.out).1.shape
   cases hne
   have HNC:=lH hncell;have HYR:=lH hyr.out;have hq:=zAa wr (.cells (dA d an cn sa cs) 62);have HXB:=lH (CBox.new wr 62 (dA d an cn sa cs));obtain ⟨hsm,hnn⟩:=HS.o d hym;have hdo:=HOK.o d hym;have HSN:=lH hsm.names;have hnl:=hsm.len;have hpp:=HP.o;rw [zTf hy] at hpp;have h1:=yDa hpp;have hes:=zUo d;have hsz1:=yAm hpp;rw [List.length_append] at hsz1
   have HD:Hid (T=((((((s++⟨(putI d.id).toArray⟩)++⟨(putI d.kind).toArray⟩)++⟨(putB d.pub).toArray⟩)++⟨(putB d.doubt).toArray⟩)++⟨(putI d.names.length).toArray⟩)++⟨(encN (d.names.drop 0)).toArray⟩)++⟨(encX d.body).toArray⟩++⟨((ds.drop (i+1)).flatMap encD).toArray⟩):=by
    show _=_
    rw [h1];unfold encD;simp only [←zHs,ByteArray.append_assoc,List.drop_zero]
   have HCX:=lH (fun (W:World) (h:Bw w W)=>yAl d.body W sa cs (HYR.o.below h) hdo.body hsm.body (by omega) hnn);have HC0:=lH (zBu d.id);have HC1:=lH (zBu d.kind);have HC2:=lH (zNj d.pub);have HC3:=lH (zNj d.doubt);have HC4:=lH (zBu d.names.length);have z0:(⟨(putI d.id).toArray⟩:ByteArray).size≤100:=by rw [zAt (putI d.id)];have:=zBf d.id;omega
   have z1:(⟨(putI d.kind).toArray⟩:ByteArray).size≤100:=by rw [zAt (putI d.kind)];have:=zBf d.kind;omega
   have z2:(⟨(putB d.pub).toArray⟩:ByteArray).size≤100:=by rw [zAt (putB d.pub)];have:(putB d.pub).length≤9:=zBf _;omega
   have z3:(⟨(putB d.doubt).toArray⟩:ByteArray).size≤100:=by rw [zAt (putB d.doubt)];have:(putB d.doubt).length≤9:=zBf _;omega
   have z4:(⟨(putI d.names.length).toArray⟩:ByteArray).size≤100:=by rw [zAt (putI d.names.length)];have:=zBf d.names.length;omega
   generalize (⟨(putI d.id).toArray⟩:ByteArray)=S0 at *;generalize (⟨(putI d.kind).toArray⟩:ByteArray)=S1 at *;generalize (⟨(putB d.pub).toArray⟩:ByteArray)=S2 at *;generalize (⟨(putB d.doubt).toArray⟩:ByteArray)=S3 at *;generalize (⟨(putI d.names.length).toArray⟩:ByteArray)=S4 at *;generalize (⟨(encX d.body).toArray⟩:ByteArray)=SX at *;have HB2:=lH (zA HB.o hq);obtain ⟨R,hR⟩:∃R,wr.heap.size=R:=⟨_,rfl⟩;rw [hR] at HXB;have hss:s.size≤10000000000000:=by omega
   clear zc hym hy hbl2 hq hsm hncell hyn hyr hpp h1 hes hsz1 hdo HP;go_upto_region 6 with (fail)
   clear y0 y1 y2 y3 y4 y5 y6 y7 y8 y9 y10 hbr
   (try rw [hR])
   generalize World.alloc wr _=W2 at *;clear hR HB
   refine wp_region_noPanic (zGn 22 (QV [.string s,.pointer (some ⟨R,0,none⟩),.int .i64 d.id,.string S0,.string (s++S0),.pointer (some ⟨R,1,none⟩),.int .i64 d.kind,.string S1,.string (s++S0++S1),.pointer (some ⟨R,2,none⟩),.bool d.pub,.string S2,.string (s++S0++S1++S2),.pointer (some ⟨R,4,none⟩),.bool d.doubt,.string S3,.string (s++S0++S1++S2++S3),.pointer (some ⟨R,3,none⟩),.slice an d.names.length cn,.int .i64 d.names.length,.string S4,.string (s++S0++S1++S2++S3++S4)]) zBm (by kernel_rfl) (fun _ _ _ h=>h) (by kernel_rfl) (fun i v w w' h k=>h) ?_ ?_)
   ·show AllQ _ _ _ _ _ _ _ 0 (_::_)
    refine AllQ.step ?_ ?_
    ·intro fa vals w1 hf hbw hn
     refine ⟨(fun _ _ e=>by cases e),fun K hK=>?_⟩;exact yAk rfl ((hf.out 3 (by kernel_rfl)).trans rfl) (hK.out _ _ (zAl _) rfl)
    refine AllQ.step ?_ ?_
    ·intro fa vals w1 hf hbw hn
     refine ⟨(fun _ _ e=>by cases e),fun K hK=>?_⟩;exact zWt rfl ((hf.out 5 (by kernel_rfl)).trans rfl) (hK.out _ _ (zAl _) rfl)
    refine AllQ.step ?_ ?_
    ·intro fa vals w1 hf hbw hn
     refine ⟨(fun _ _ e=>by cases e),fun K hK=>?_⟩;exact zHt rfl ((hf.at_ 1 21 (by decide) rfl).trans ((hn 1 (by decide)).eq rfl)) ((HXB.o.below hbw).lt) ((HXB.o.below hbw).cell (i:=0) (v:=.int .i64 d.id) rfl) (hK.out _ _ (zAl _) rfl)
    refine AllQ.step ?_ ?_
    ·intro fa vals w1 hf hbw hn
     refine ⟨(fun _ _ e=>by cases e),fun K hK=>?_⟩;exact zCh (vs:=#[.int .i64 d.id]) rfl rfl (by simp only [List.map_toArray,List.map_cons,List.map_nil];rw [((hf.at_ 2 22 (by decide) rfl).trans ((hn 2 (by decide)).eq rfl))]) (enters_of Tryz.func52 (by kernel_rfl) rfl) ((HC0.o w1).mono fun e w2 h=>⟨_,h.1,hK.out _ _ h.2 rfl⟩)
    refine AllQ.step ?_ ?_
    ·intro fa vals w1 hf hbw hn
     refine ⟨(fun _ _ e=>by cases e),fun K hK=>?_⟩;exact zDz rfl ((hf.at_ 0 20 (by decide) rfl).trans ((hn 0 (by decide)).eq rfl)) ((hf.at_ 3 23 (by decide) rfl).trans ((hn 3 (by decide)).eq rfl)) (zCu (n:=20000000000000) (by (try simp only [ByteArray.size_append]);omega) (by omega)) (hK.out _ _ (zAl _) rfl)
    refine AllQ.step ?_ ?_
    ·intro fa vals w1 hf hbw hn
     refine ⟨(fun _ _ e=>by cases e),fun K hK=>?_⟩;exact zWu rfl ((hf.out 5 (by kernel_rfl)).trans rfl) (hK.out _ _ (zAl _) rfl)
    refine AllQ.step ?_ ?_
    ·intro fa vals w1 hf hbw hn
     refine ⟨(fun _ _ e=>by cases e),fun K hK=>?_⟩;exact zHt rfl ((hf.at_ 5 25 (by decide) rfl).trans ((hn 5 (by decide)).eq rfl)) ((HXB.o.below hbw).lt) ((HXB.o.below hbw).cell (i:=1) (v:=.int .i64 d.kind) rfl) (hK.out _ _ (zAl _) rfl)
    refine AllQ.step ?_ ?_
    ·intro fa vals w1 hf hbw hn
     refine ⟨(fun _ _ e=>by cases e),fun K hK=>?_⟩;exact zCh (vs:=#[.int .i64 d.kind]) rfl rfl (by simp only [List.map_toArray,List.map_cons,List.map_nil];rw [((hf.at_ 6 26 (by decide) rfl).trans ((hn 6 (by decide)).eq rfl))]) (enters_of Tryz.func52 (by kernel_rfl) rfl) ((HC1.o w1).mono fun e w2 h=>⟨_,h.1,hK.out _ _ h.2 rfl⟩)
    refine AllQ.step ?_ ?_
    ·intro fa vals w1 hf hbw hn
     refine ⟨(fun _ _ e=>by cases e),fun K hK=>?_⟩;exact zDz rfl ((hf.at_ 4 24 (by decide) rfl).trans ((hn 4 (by decide)).eq rfl)) ((hf.at_ 7 27 (by decide) rfl).trans ((hn 7 (by decide)).eq rfl)) (zCu (n:=20000000000000) (by (try simp only [ByteArray.size_append]);omega) (by omega)) (hK.out _ _ (zAl _) rfl)
    refine AllQ.step ?_ ?_
    ·intro fa vals w1 hf hbw hn
     refine ⟨(fun _ _ e=>by cases e),fun K hK=>?_⟩;exact zWv rfl ((hf.out 5 (by kernel_rfl)).trans rfl) (hK.out _ _ (zAl _) rfl)
    refine AllQ.step ?_ ?_
    ·intro fa vals w1 hf hbw hn
     refine ⟨(fun _ _ e=>by cases e),fun K hK=>?_⟩;exact zUq rfl ((hf.at_ 9 29 (by decide) rfl).trans ((hn 9 (by decide)).eq rfl)) ((HXB.o.below hbw).lt) ((HXB.o.below hbw).cell (i:=2) (v:=.bool d.pub) rfl) (hK.out _ _ (zAl _) rfl)
    refine AllQ.step ?_ ?_
    ·intro fa vals w1 hf hbw hn
     refine ⟨(fun _ _ e=>by cases e),fun K hK=>?_⟩;exact zCh (vs:=#[.bool d.pub]) rfl rfl (by simp only [List.map_toArray,List.map_cons,List.map_nil];rw [((hf.at_ 10 30 (by decide) rfl).trans ((hn 10 (by decide)).eq rfl))]) (enters_of Tryz.func102 (by kernel_rfl) rfl) ((HC2.o w1).mono fun e w2 h=>⟨_,h.1,hK.out _ _ h.2 rfl⟩)
    refine AllQ.step ?_ ?_
    ·intro fa vals w1 hf hbw hn
     refine ⟨(fun _ _ e=>by cases e),fun K hK=>?_⟩;exact zDz rfl ((hf.at_ 8 28 (by decide) rfl).trans ((hn 8 (by decide)).eq rfl)) ((hf.at_ 11 31 (by decide) rfl).trans ((hn 11 (by decide)).eq rfl)) (zCu (n:=20000000000000) (by (try simp only [ByteArray.size_append]);omega) (by omega)) (hK.out _ _ (zAl _) rfl)
    refine AllQ.step ?_ ?_
    ·intro fa vals w1 hf hbw hn
     refine ⟨(fun _ _ e=>by cases e),fun K hK=>?_⟩;exact zWx rfl ((hf.out 5 (by kernel_rfl)).trans rfl) (hK.out _ _ (zAl _) rfl)
    refine AllQ.step ?_ ?_
    ·intro fa vals w1 hf hbw hn
     refine ⟨(fun _ _ e=>by cases e),fun K hK=>?_⟩;exact zUq rfl ((hf.at_ 13 33 (by decide) rfl).trans ((hn 13 (by decide)).eq rfl)) ((HXB.o.below hbw).lt) ((HXB.o.below hbw).cell (i:=4) (v:=.bool d.doubt) rfl) (hK.out _ _ (zAl _) rfl)
    refine AllQ.step ?_ ?_
    ·intro fa vals w1 hf hbw hn
     refine ⟨(fun _ _ e=>by cases e),fun K hK=>?_⟩;exact zCh (vs:=#[.bool d.doubt]) rfl rfl (by simp only [List.map_toArray,List.map_cons,List.map_nil];rw [((hf.at_ 14 34 (by decide) rfl).trans ((hn 14 (by decide)).eq rfl))]) (enters_of Tryz.func102 (by kernel_rfl) rfl) ((HC3.o w1).mono fun e w2 h=>⟨_,h.1,hK.out _ _ h.2 rfl⟩)
    refine AllQ.step ?_ ?_
    ·intro fa vals w1 hf hbw hn
     refine ⟨(fun _ _ e=>by cases e),fun K hK=>?_⟩;exact zDz rfl ((hf.at_ 12 32 (by decide) rfl).trans ((hn 12 (by decide)).eq rfl)) ((hf.at_ 15 35 (by decide) rfl).trans ((hn 15 (by decide)).eq rfl)) (zCu (n:=20000000000000) (by (try simp only [ByteArray.size_append]);omega) (by omega)) (hK.out _ _ (zAl _) rfl)
    refine AllQ.step ?_ ?_
    ·intro fa vals w1 hf hbw hn
     refine ⟨(fun _ _ e=>by cases e),fun K hK=>?_⟩;exact zWw rfl ((hf.out 5 (by kernel_rfl)).trans rfl) (hK.out _ _ (zAl _) rfl)
    refine AllQ.step ?_ ?_
    ·intro fa vals w1 hf hbw hn
     refine ⟨(fun _ _ e=>by cases e),fun K hK=>?_⟩;exact yD rfl ((hf.at_ 17 37 (by decide) rfl).trans ((hn 17 (by decide)).eq rfl)) ((HXB.o.below hbw).lt) ((HXB.o.below hbw).cell (i:=3) (v:=.slice an d.names.length cn) rfl) (hK.out _ _ (zAl _) rfl)
    refine AllQ.step ?_ ?_
    ·intro fa vals w1 hf hbw hn
     refine ⟨(fun _ _ e=>by cases e),fun K hK=>?_⟩;exact yEt rfl ((hf.at_ 18 38 (by decide) rfl).trans ((hn 18 (by decide)).eq rfl)) (hK.out _ _ (zAl _) rfl)
    refine AllQ.step ?_ ?_
    ·intro fa vals w1 hf hbw hn
     refine ⟨(fun _ _ e=>by cases e),fun K hK=>?_⟩;exact zCh (vs:=#[.int .i64 d.names.length]) rfl rfl (by simp only [List.map_toArray,List.map_cons,List.map_nil];rw [((hf.at_ 19 39 (by decide) rfl).trans ((hn 19 (by decide)).eq rfl))]) (enters_of Tryz.func52 (by kernel_rfl) rfl) ((HC4.o w1).mono fun e w2 h=>⟨_,h.1,hK.out _ _ h.2 rfl⟩)
    refine AllQ.step ?_ ?_
    ·intro fa vals w1 hf hbw hn
     refine ⟨(fun _ _ e=>by cases e),fun K hK=>?_⟩;exact zDz rfl ((hf.at_ 16 36 (by decide) rfl).trans ((hn 16 (by decide)).eq rfl)) ((hf.at_ 20 40 (by decide) rfl).trans ((hn 20 (by decide)).eq rfl)) (zCu (n:=20000000000000) (by (try simp only [ByteArray.size_append]);omega) (by omega)) (hK.out _ _ (zAl _) rfl)
    exact trivial
   intro vals W1 hbw hr;have e21:vals 21=.string (s++S0++S1++S2++S3++S4):=(hr 21 (by decide)).eq rfl;refine zOz (h:=by simp only [fullR,dstR,List.getElem?_toArray,List.getElem?_cons_succ,List.getElem?_cons_zero,Option.bind_some,Act.put,List.setIfInBounds_toArray,List.set_cons_zero,List.set_cons_succ,e21];rfl) ?_;clear hr e21;generalize vals 0=q0;generalize vals 1=q1;generalize vals 2=q2;generalize vals 3=q3;generalize vals 4=q4;generalize vals 5=q5;generalize vals 6=q6;generalize vals 7=q7;generalize vals 8=q8
   generalize vals 9=q9;generalize vals 10=q10;generalize vals 11=q11;generalize vals 12=q12;generalize vals 13=q13;generalize vals 14=q14;generalize vals 15=q15;generalize vals 16=q16;generalize vals 17=q17;generalize vals 18=q18;generalize vals 19=q19;generalize vals 20=q20;clear vals;have HX1:=lH (HXB.o.below hbw);have HB1:=lH (zA HB2.o hbw);generalize s++S0++S1++S2++S3++S4=P at *;have HT0:Hid (T=P++⟨(encN (d.names.drop 0)).toArray⟩++SX++⟨((ds.drop (i+1)).flatMap encD).toArray⟩):=HD
   clear HC0 HC1 HC2 HC3 HC4 hbw HXB HD z0 z1 z2 z3 z4 HB2 hss;go_wp2;refine NoPanic.normal ?_;go_wp2;generalize wr=wo at *
   go_loopw [6,3] (fun jv sv wr=>∃(j:Nat) (s:ByteArray),j≤d.names.length∧jv=.int .i64 j∧sv=.string s∧Hid (T=s++⟨(encN (d.names.drop j)).toArray⟩++SX++⟨((ds.drop (i+1)).flatMap encD).toArray⟩)∧Hid (CBox wr R 62 (dA d an cn sa cs))∧Hid (Bw w wr)) (fun jv _ _=>d.names.length - (intOf jv).toNat)
   case atStart=>exact ⟨0,P,Nat.zero_le _,rfl,rfl,HT0,HX1,HB1⟩
   case round=>
    clear HT0 HX1 HB1;obtain ⟨j,s2,hjl,rfl,rfl,HP,HX,HB⟩:=hrel;have hsz2:s2.size≤10000000000000:=by have:=congrArg ByteArray.size HP.o;simp only [ByteArray.size_append] at this;omega
    have x3:=HX.o.cell (i:=3) (v:=.slice an d.names.length cn) rfl;have xl:=HX.o.lt
    by_cases hj:j<d.names.length
    ·have hd2:decide ((j:Int)<(d.names.length:Int))=true:=decide_eq_true (by omega)
     have hjr:(j:Int)<(d.names.length:Int):=by omega
     obtain ⟨u,hs⟩:∃u,d.names[j]?=some u:=⟨_,List.getElem?_eq_getElem hj⟩;obtain ⟨nb,no,rfl,hnb,hncl⟩:=HNC.o j hj;have hnr:nb<wr.heap.size:=Nat.lt_of_lt_of_le hnb HB.o.size
     have hcs:wr.cell? ⟨nb,no+j,none⟩=some (.string u):=by
      have:=(HB.o.cell (p:=⟨nb,no+j,none⟩) hnb).trans (hncl j hj);rwa [show d.names.getD j ByteArray.empty=u from zDw hs] at this
     have hss:=HSN.o u (List.mem_of_getElem? hs);have HC:=lH (zFp u (by omega) wr);have hpl:=zCt u;have hsz:¬9223372036854775807<s2.size+(⟨(putT u).toArray⟩:ByteArray).size:=by rw [zAt (putT u)];omega
     have HPN:Hid (T=(s2++⟨(putT u).toArray⟩)++⟨(encN (d.names.drop (j+1))).toArray⟩++SX++⟨((ds.drop (i+1)).flatMap encD).toArray⟩):=by
      show _=_
      rw [HP.o,zTe hs,←zHs,←ByteArray.append_assoc]
     generalize (⟨(putT u).toArray⟩:ByteArray)=Y at *;clear hs hncl hnb hss HP hpl;go_wp2_with (fail)
     refine HC.o.mono ?_;rintro e w7 ⟨rfl,hb7⟩;have HX7:=lH (HX.o.below hb7);have HB7:=lH (zA HB.o hb7);clear hb7 HC HX HB x3 xl hcs hnr;go_wp2;go_roundw
     case rel=>exact ⟨j+1,_,by omega,by go_num,rfl,HPN,HX7,HB7⟩
     case measure=>simp [intOf];omega
    ·have hd2:decide ((j:Int)<(d.names.length:Int))=false:=decide_eq_false (by omega)
     have HPN:Hid (T=(s2++SX)++⟨((ds.drop (i+1)).flatMap encD).toArray⟩):=by
      show _=_
      rw [HP.o,List.drop_eq_nil_of_le (by omega)];rw [show encN ([]:List ByteArray)=[] from rfl,yAj]
     have hsz:¬9223372036854775807<s2.size+SX.size:=by
      have:=congrArg ByteArray.size HPN.o;simp only [ByteArray.size_append] at this
      omega
     have HC:=HCX.o wr HB.o;unfold exV at HC;have HC:=lH HC;obtain ⟨-,-,-,-,-,x5,x6,x7,x8,x9,x10,xl⟩:=zAz HX.o;clear HP;go_wp2_with (fail)
     refine HC.o.mono ?_;rintro e w8 ⟨rfl,hb8⟩;have HB8:=lH (zA HB.o hb8);clear hb8 HC HX HB x3 x5 x6 x7 x8 x9 x10 xl hj hjl HCX;go_wp2;go_roundw
     case rel=>exact ⟨i+1,_,by omega,by go_num,rfl,HPN,HB8⟩
     case measure=>simp [intOf];omega
  ·have hd:decide ((i:Int)<(ds.length:Int))=false:=decide_eq_false (by omega)
   have HF:Hid (s=T):=by show _=_;rw [HP.o,List.drop_eq_nil_of_le (by omega),List.flatMap_nil,yAj]
   clear HP;go_wp2;go_ret;exact ⟨by rw [HF.o];rfl,HB.o⟩
theorem zTh (e:OEdit) (ao:Option Addr) (co:Nat) (af:Option Addr) (cf:Nat) (w:World) (he:EditIn w e ao co af cf) (hs:SmE e) :
  Calls Tryz.prog 20 #[editV e ao co af cf] w fun r w'=>r=.returned (.tuple #[.string (encS e),.int .i64 (editErr e)])∧Bw w w':=by
 have HA:=lH (zAa w (.cells #[.int .i64 e.kind,.string e.pack,.string e.text,.slice ao e.old.length co,.slice af e.fresh.length cf] 39));have HXB:=lH (CBox.new w 39 #[.int .i64 e.kind,.string e.pack,.string e.text,.slice ao e.old.length co,.slice af e.fresh.length cf]);have HCK:=lH (zPz e ao co af cf _ (he.below HA.o) hs);have HOK:Hid (editErr e=0→EdiOk e):=fun h=>zJk h hs;have HS:=lH hs;have HR:=lH (he.below HA.o)
 have HE0:Hid (editErr e=0→encS e=(⟨(putI e.kind).toArray⟩++⟨(putT e.pack).toArray⟩++⟨(putT e.text).toArray⟩++⟨(encDs e.old).toArray⟩)++⟨(encDs e.fresh).toArray⟩):=fun h=>by
  unfold encS;rw [if_pos h];unfold encE;simp only [zHs,List.append_assoc]
 have HE1:Hid (editErr e≠0→encS e=⟨#[]⟩):=fun h=>by unfold encS;rw [if_neg h]
 unfold editV at HCK ⊢;generalize editErr e=E at *;clear he hs;obtain ⟨Z,hZ⟩:∃Z,w.heap.size=Z:=⟨_,rfl⟩;rw [hZ] at HXB
 go_enter Tryz.func20,Tryz.ntmps20
 go_upto_region 1 with (fail)
 (try rw [hZ])
 generalize World.alloc w _=W0 at *;clear hZ;have x0:=HXB.o.cell (i:=0) (v:=.int .i64 e.kind) rfl;have x1:=HXB.o.cell (i:=1) (v:=.string e.pack) rfl;have x2:=HXB.o.cell (i:=2) (v:=.string e.text) rfl;have x3:=HXB.o.cell (i:=3) (v:=.slice ao e.old.length co) rfl;have x4:=HXB.o.cell (i:=4) (v:=.slice af e.fresh.length cf) rfl;have xl:=HXB.o.lt;go_wp2_with (fail)
 refine HCK.o.mono ?_;rintro r w1 ⟨rfl,hb1⟩;have HX1:=lH (HXB.o.below hb1);have HB1:=lH (HA.o.trans (hb1.mono HA.o.size));have HR1:=lH (HR.o.below hb1);clear hb1 HCK HXB HA HR x0 x1 x2 x3 x4 xl
 by_cases h0:E=0
 rotate_left
 ·have q1:(E != 0)=true:=by simp [h0]
  have HE:=lH (HE1.o h0);clear h0 HE0 HE1 HOK;go_wp2;go_ret2;exact ⟨by rw [HE.o];rfl,HB1.o⟩
 have q1:(E != 0)=false:=by rw [h0];rfl
 have HE:=lH (HE0.o h0);have HO:=lH (HOK.o h0);subst h0;clear HE0 HE1 HOK;have hpk:=HS.o.pack;have htx:=HS.o.text;have b1:=zHr HS.o.old HO.o.olen;have b2:=zHr HS.o.fresh HO.o.flen;have HC0:=lH (zBu e.kind);have HC1:=lH (zFp e.pack (by omega));have HC2:=lH (zFp e.text (by omega));have HC3:=lH (fun W (h:Bw w1 W)=>zRf e.old W ao co (HR1.o.old.below h) HO.o.old HS.o.old (by omega) (by have:=HO.o.olen;omega))
 have HC4:=lH (fun W (h:Bw w1 W)=>zRf e.fresh W af cf (HR1.o.fresh.below h) HO.o.fresh HS.o.fresh (by omega) (by have:=HO.o.flen;omega));have z0:(⟨(putI e.kind).toArray⟩:ByteArray).size≤1000000:=by rw [zAt (putI e.kind)];have:=zBf e.kind;omega
 have z1:(⟨(putT e.pack).toArray⟩:ByteArray).size≤1000000:=by rw [zAt (putT e.pack)];have:=zCt e.pack;omega
 have z2:(⟨(putT e.text).toArray⟩:ByteArray).size≤1000000:=by rw [zAt (putT e.text)];have:=zCt e.text;omega
 have z3:(⟨(encDs e.old).toArray⟩:ByteArray).size≤1000000000100:=by rw [zAt (encDs e.old)];exact b1
 have z4:(⟨(encDs e.fresh).toArray⟩:ByteArray).size≤1000000000100:=by rw [zAt (encDs e.fresh)];exact b2
 generalize (⟨(putI e.kind).toArray⟩:ByteArray)=S0 at *;generalize (⟨(putT e.pack).toArray⟩:ByteArray)=S1 at *;generalize (⟨(putT e.text).toArray⟩:ByteArray)=S2 at *;generalize (⟨(encDs e.old).toArray⟩:ByteArray)=S3 at *;generalize (⟨(encDs e.fresh).toArray⟩:ByteArray)=S4 at *;clear b1 b2 HO HR1;go_upto_region 4 with (fail)
 refine wp_region_noPanic (zGn 19 (QV [.pointer (some ⟨Z,0,none⟩),.int .i64 e.kind,.string S0,.pointer (some ⟨Z,1,none⟩),.string e.pack,.string S1,.string (S0++S1),.pointer (some ⟨Z,2,none⟩),.string e.text,.string S2,.string (S0++S1++S2),.pointer (some ⟨Z,3,none⟩),.slice ao e.old.length co,.string S3,.string (S0++S1++S2++S3),.pointer (some ⟨Z,4,none⟩),.slice af e.fresh.length cf,.string S4,.string (S0++S1++S2++S3++S4)]) zBm (by kernel_rfl) (fun _ _ _ h=>h) (by kernel_rfl) (fun i v w w' h k=>h) ?_ ?_)
 ·show AllQ _ _ _ _ _ _ _ 0 (_::_)
  refine AllQ.step ?_ ?_
  ·intro fa vals w2 hf hbw hn
   refine ⟨(fun _ _ e=>by cases e),fun K hK=>?_⟩;exact zWy rfl ((hf.out 1 (by kernel_rfl)).trans rfl) (hK.out _ _ (zAl _) rfl)
  refine AllQ.step ?_ ?_
  ·intro fa vals w2 hf hbw hn
   refine ⟨(fun _ _ e=>by cases e),fun K hK=>?_⟩;exact zHt rfl ((hf.at_ 0 10 (by decide) rfl).trans ((hn 0 (by decide)).eq rfl)) ((HX1.o.below hbw).lt) ((HX1.o.below hbw).cell (i:=0) (v:=.int .i64 e.kind) rfl) (hK.out _ _ (zAl _) rfl)
  refine AllQ.step ?_ ?_
  ·intro fa vals w2 hf hbw hn
   refine ⟨(fun _ _ e=>by cases e),fun K hK=>?_⟩;exact zCh (vs:=#[.int .i64 e.kind]) rfl rfl (by simp only [List.map_toArray,List.map_cons,List.map_nil];rw [((hf.at_ 1 11 (by decide) rfl).trans ((hn 1 (by decide)).eq rfl))]) (enters_of Tryz.func52 (by kernel_rfl) rfl) ((HC0.o w2).mono fun e w3 h=>⟨_,h.1,hK.out _ _ h.2 rfl⟩)
  refine AllQ.step ?_ ?_
  ·intro fa vals w2 hf hbw hn
   refine ⟨(fun _ _ e=>by cases e),fun K hK=>?_⟩;exact zWz rfl ((hf.out 1 (by kernel_rfl)).trans rfl) (hK.out _ _ (zAl _) rfl)
  refine AllQ.step ?_ ?_
  ·intro fa vals w2 hf hbw hn
   refine ⟨(fun _ _ e=>by cases e),fun K hK=>?_⟩;exact zJl rfl ((hf.at_ 3 13 (by decide) rfl).trans ((hn 3 (by decide)).eq rfl)) ((HX1.o.below hbw).lt) ((HX1.o.below hbw).cell (i:=1) (v:=.string e.pack) rfl) (hK.out _ _ (zAl _) rfl)
  refine AllQ.step ?_ ?_
  ·intro fa vals w2 hf hbw hn
   refine ⟨(fun _ _ e=>by cases e),fun K hK=>?_⟩;exact zCh (vs:=#[.string e.pack]) rfl rfl (by simp only [List.map_toArray,List.map_cons,List.map_nil];rw [((hf.at_ 4 14 (by decide) rfl).trans ((hn 4 (by decide)).eq rfl))]) (enters_of Tryz.func53 (by kernel_rfl) rfl) ((HC1.o w2).mono fun e w3 h=>⟨_,h.1,hK.out _ _ h.2 rfl⟩)
  refine AllQ.step ?_ ?_
  ·intro fa vals w2 hf hbw hn
   refine ⟨(fun _ _ e=>by cases e),fun K hK=>?_⟩;exact zDz rfl ((hf.at_ 2 12 (by decide) rfl).trans ((hn 2 (by decide)).eq rfl)) ((hf.at_ 5 15 (by decide) rfl).trans ((hn 5 (by decide)).eq rfl)) (zCu (n:=20000000000000) (by (try simp only [ByteArray.size_append]);omega) (by omega)) (hK.out _ _ (zAl _) rfl)
  refine AllQ.step ?_ ?_
  ·intro fa vals w2 hf hbw hn
   refine ⟨(fun _ _ e=>by cases e),fun K hK=>?_⟩;exact zX rfl ((hf.out 1 (by kernel_rfl)).trans rfl) (hK.out _ _ (zAl _) rfl)
  refine AllQ.step ?_ ?_
  ·intro fa vals w2 hf hbw hn
   refine ⟨(fun _ _ e=>by cases e),fun K hK=>?_⟩;exact zJl rfl ((hf.at_ 7 17 (by decide) rfl).trans ((hn 7 (by decide)).eq rfl)) ((HX1.o.below hbw).lt) ((HX1.o.below hbw).cell (i:=2) (v:=.string e.text) rfl) (hK.out _ _ (zAl _) rfl)
  refine AllQ.step ?_ ?_
  ·intro fa vals w2 hf hbw hn
   refine ⟨(fun _ _ e=>by cases e),fun K hK=>?_⟩;exact zCh (vs:=#[.string e.text]) rfl rfl (by simp only [List.map_toArray,List.map_cons,List.map_nil];rw [((hf.at_ 8 18 (by decide) rfl).trans ((hn 8 (by decide)).eq rfl))]) (enters_of Tryz.func53 (by kernel_rfl) rfl) ((HC2.o w2).mono fun e w3 h=>⟨_,h.1,hK.out _ _ h.2 rfl⟩)
  refine AllQ.step ?_ ?_
  ·intro fa vals w2 hf hbw hn
   refine ⟨(fun _ _ e=>by cases e),fun K hK=>?_⟩;exact zDz rfl ((hf.at_ 6 16 (by decide) rfl).trans ((hn 6 (by decide)).eq rfl)) ((hf.at_ 9 19 (by decide) rfl).trans ((hn 9 (by decide)).eq rfl)) (zCu (n:=20000000000000) (by (try simp only [ByteArray.size_append]);omega) (by omega)) (hK.out _ _ (zAl _) rfl)
  refine AllQ.step ?_ ?_
  ·intro fa vals w2 hf hbw hn
   refine ⟨(fun _ _ e=>by cases e),fun K hK=>?_⟩;exact zXa rfl ((hf.out 1 (by kernel_rfl)).trans rfl) (hK.out _ _ (zAl _) rfl)
  refine AllQ.step ?_ ?_
  ·intro fa vals w2 hf hbw hn
   refine ⟨(fun _ _ e=>by cases e),fun K hK=>?_⟩;exact zUr rfl ((hf.at_ 11 21 (by decide) rfl).trans ((hn 11 (by decide)).eq rfl)) ((HX1.o.below hbw).lt) ((HX1.o.below hbw).cell (i:=3) (v:=.slice ao e.old.length co) rfl) (hK.out _ _ (zAl _) rfl)
  refine AllQ.step ?_ ?_
  ·intro fa vals w2 hf hbw hn
   refine ⟨(fun _ _ e=>by cases e),fun K hK=>?_⟩;exact zCh (vs:=#[.slice ao e.old.length co]) rfl rfl (by simp only [List.map_toArray,List.map_cons,List.map_nil];rw [((hf.at_ 12 22 (by decide) rfl).trans ((hn 12 (by decide)).eq rfl))]) (enters_of Tryz.func54 (by kernel_rfl) rfl) ((HC3.o w2 hbw).mono fun e w3 h=>⟨_,h.1,hK.out _ _ h.2 rfl⟩)
  refine AllQ.step ?_ ?_
  ·intro fa vals w2 hf hbw hn
   refine ⟨(fun _ _ e=>by cases e),fun K hK=>?_⟩;exact zDz rfl ((hf.at_ 10 20 (by decide) rfl).trans ((hn 10 (by decide)).eq rfl)) ((hf.at_ 13 23 (by decide) rfl).trans ((hn 13 (by decide)).eq rfl)) (zCu (n:=20000000000000) (by (try simp only [ByteArray.size_append]);omega) (by omega)) (hK.out _ _ (zAl _) rfl)
  refine AllQ.step ?_ ?_
  ·intro fa vals w2 hf hbw hn
   refine ⟨(fun _ _ e=>by cases e),fun K hK=>?_⟩;exact zXb rfl ((hf.out 1 (by kernel_rfl)).trans rfl) (hK.out _ _ (zAl _) rfl)
  refine AllQ.step ?_ ?_
  ·intro fa vals w2 hf hbw hn
   refine ⟨(fun _ _ e=>by cases e),fun K hK=>?_⟩;exact zUr rfl ((hf.at_ 15 25 (by decide) rfl).trans ((hn 15 (by decide)).eq rfl)) ((HX1.o.below hbw).lt) ((HX1.o.below hbw).cell (i:=4) (v:=.slice af e.fresh.length cf) rfl) (hK.out _ _ (zAl _) rfl)
  refine AllQ.step ?_ ?_
  ·intro fa vals w2 hf hbw hn
   refine ⟨(fun _ _ e=>by cases e),fun K hK=>?_⟩;exact zCh (vs:=#[.slice af e.fresh.length cf]) rfl rfl (by simp only [List.map_toArray,List.map_cons,List.map_nil];rw [((hf.at_ 16 26 (by decide) rfl).trans ((hn 16 (by decide)).eq rfl))]) (enters_of Tryz.func54 (by kernel_rfl) rfl) ((HC4.o w2 hbw).mono fun e w3 h=>⟨_,h.1,hK.out _ _ h.2 rfl⟩)
  refine AllQ.step ?_ ?_
  ·intro fa vals w2 hf hbw hn
   refine ⟨(fun _ _ e=>by cases e),fun K hK=>?_⟩;exact zDz rfl ((hf.at_ 14 24 (by decide) rfl).trans ((hn 14 (by decide)).eq rfl)) ((hf.at_ 17 27 (by decide) rfl).trans ((hn 17 (by decide)).eq rfl)) (zCu (n:=20000000000000) (by (try simp only [ByteArray.size_append]);omega) (by omega)) (hK.out _ _ (zAl _) rfl)
  exact trivial
 intro vals W2 hbw hr;have e18:vals 18=.string (S0++S1++S2++S3++S4):=(hr 18 (by decide)).eq rfl;refine zOz (h:=by simp only [fullR,dstR,List.getElem?_toArray,List.getElem?_cons_succ,List.getElem?_cons_zero,Option.bind_some,Act.put,List.setIfInBounds_toArray,List.set_cons_zero,List.set_cons_succ,e18];rfl) ?_;clear hr e18;generalize vals 0=q0;generalize vals 1=q1;generalize vals 2=q2;generalize vals 3=q3;generalize vals 4=q4;generalize vals 5=q5;generalize vals 6=q6;generalize vals 7=q7;generalize vals 8=q8;generalize vals 9=q9
 generalize vals 10=q10;generalize vals 11=q11;generalize vals 12=q12;generalize vals 13=q13;generalize vals 14=q14;generalize vals 15=q15;generalize vals 16=q16;generalize vals 17=q17;clear vals;have HB2:=lH (zA HB1.o hbw);clear HC0 HC1 HC2 HC3 HC4 hbw HX1 HB1 z0 z1 z2 z3 z4;go_wp2;refine NoPanic.normal ?_;go_wp2;go_ret2;exact ⟨by rw [HE.o];rfl,HB2.o⟩
end Go.Proofs.YtfkjfdbjhlmjcaaGreatDoor
