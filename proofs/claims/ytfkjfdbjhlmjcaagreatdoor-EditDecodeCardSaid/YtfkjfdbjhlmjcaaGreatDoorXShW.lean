/- The library's contracts of strings.Join and strings.Builder at this program, as the kit's. -/
import Derived.Shelf.Strings.OnBuilder
import Derived.Shelf.Strings.BuilderK
import Derived.Test.YtfkjfdbjhlmjcaaGreatDoorXKA
import Derived.Lib.OwnKind
import Derived.Lib.BufferKept
set_option maxRecDepth 100000
set_option maxHeartbeats 16000000
namespace Go.Proofs
open Go.Shelf
def Tryz.shelf_ren:Go.Shelf.Ren:=⟨fun|166=>96|167=>175|169=>51|240=>146|276=>176|n=>n,fun|0=>0|3=>3|4=>4|5=>5|9=>9|20=>20|37=>83|70=>82|72=>85|75=>137|76=>138|80=>91|127=>143|164=>202|n=>n,fun|n=>n⟩
theorem Tryz.lays166:Go.Proofs.Lays.n166 Tryz.prog Tryz.shelf_ren:={
 mixed:=by kernel_rfl
 f166:=Tryz.func96.trans (congrArg some (by kernel_rfl))
 f240:=Tryz.func146.trans (congrArg some (by kernel_rfl))
 f276:=Tryz.func176.trans (congrArg some (by kernel_rfl))
 t0:=Tryz.underlying0
 a0:=Tryz.isAgg0
 z0:=Tryz.sizeOf0
 v0:=Tryz.zeroValue0
 t3:=Tryz.underlying3
 a3:=Tryz.isAgg3
 z3:=Tryz.sizeOf3
 v3:=Tryz.zeroValue3
 t4:=Tryz.underlying4
 a4:=Tryz.isAgg4
 z4:=Tryz.sizeOf4
 v4:=Tryz.zeroValue4
 t9:=Tryz.underlying9
 a9:=Tryz.isAgg9
 z9:=Tryz.sizeOf9
 v9:=Tryz.zeroValue9
 t20:=Tryz.underlying20
 a20:=Tryz.isAgg20
 z20:=Tryz.sizeOf20
 v20:=Tryz.zeroValue20
 t37:=Tryz.underlying83
 a37:=Tryz.isAgg83
 z37:=Tryz.sizeOf83
 v37:=Tryz.zeroValue83
 t70:=Tryz.underlying82
 a70:=Tryz.isAgg82
 z70:=Tryz.sizeOf82
 v70:=Tryz.zeroValue82
 t72:=Tryz.underlying85
 a72:=Tryz.isAgg85
 z72:=Tryz.sizeOf85
 v72:=Tryz.zeroValue85
 t75:=Tryz.underlying137
 a75:=Tryz.isAgg137
 z75:=Tryz.sizeOf137
 v75:=Tryz.zeroValue137
 t164:=Tryz.underlying202
 a164:=Tryz.isAgg202
 z164:=Tryz.sizeOf202
 v164:=Tryz.zeroValue202 }
theorem Tryz.lays167:Go.Proofs.Lays.n167 Tryz.prog Tryz.shelf_ren:={
 mixed:=by kernel_rfl
 f167:=Tryz.func175.trans (congrArg some (by kernel_rfl))
 f240:=Tryz.func146.trans (congrArg some (by kernel_rfl))
 f276:=Tryz.func176.trans (congrArg some (by kernel_rfl))
 t0:=Tryz.underlying0
 a0:=Tryz.isAgg0
 z0:=Tryz.sizeOf0
 v0:=Tryz.zeroValue0
 t4:=Tryz.underlying4
 a4:=Tryz.isAgg4
 z4:=Tryz.sizeOf4
 v4:=Tryz.zeroValue4
 t5:=Tryz.underlying5
 a5:=Tryz.isAgg5
 z5:=Tryz.sizeOf5
 v5:=Tryz.zeroValue5
 t9:=Tryz.underlying9
 a9:=Tryz.isAgg9
 z9:=Tryz.sizeOf9
 v9:=Tryz.zeroValue9
 t20:=Tryz.underlying20
 a20:=Tryz.isAgg20
 z20:=Tryz.sizeOf20
 v20:=Tryz.zeroValue20
 t37:=Tryz.underlying83
 a37:=Tryz.isAgg83
 z37:=Tryz.sizeOf83
 v37:=Tryz.zeroValue83
 t70:=Tryz.underlying82
 a70:=Tryz.isAgg82
 z70:=Tryz.sizeOf82
 v70:=Tryz.zeroValue82
 t72:=Tryz.underlying85
 a72:=Tryz.isAgg85
 z72:=Tryz.sizeOf85
 v72:=Tryz.zeroValue85
 t75:=Tryz.underlying137
 a75:=Tryz.isAgg137
 z75:=Tryz.sizeOf137
 v75:=Tryz.zeroValue137
 t164:=Tryz.underlying202
 a164:=Tryz.isAgg202
 z164:=Tryz.sizeOf202
 v164:=Tryz.zeroValue202 }
theorem Tryz.lays169:Go.Proofs.Lays.n169 Tryz.prog Tryz.shelf_ren:={
 mixed:=by kernel_rfl
 f169:=Tryz.func51.trans (congrArg some (by kernel_rfl))
 t0:=Tryz.underlying0
 a0:=Tryz.isAgg0
 z0:=Tryz.sizeOf0
 v0:=Tryz.zeroValue0
 t3:=Tryz.underlying3
 a3:=Tryz.isAgg3
 z3:=Tryz.sizeOf3
 v3:=Tryz.zeroValue3
 t9:=Tryz.underlying9
 a9:=Tryz.isAgg9
 z9:=Tryz.sizeOf9
 v9:=Tryz.zeroValue9
 t37:=Tryz.underlying83
 a37:=Tryz.isAgg83
 z37:=Tryz.sizeOf83
 v37:=Tryz.zeroValue83
 t70:=Tryz.underlying82
 a70:=Tryz.isAgg82
 z70:=Tryz.sizeOf82
 v70:=Tryz.zeroValue82
 t72:=Tryz.underlying85
 a72:=Tryz.isAgg85
 z72:=Tryz.sizeOf85
 v72:=Tryz.zeroValue85
 t127:=Tryz.underlying143
 a127:=Tryz.isAgg143
 z127:=Tryz.sizeOf143
 v127:=Tryz.zeroValue143 }
theorem Tryz.Builder_Extra:Builder.Extra Tryz.prog Tryz.shelf_ren:={
 sizeBuilder:=by kernel_rfl
 liesBuilder:=by kernel_rfl
 t5:=Tryz.underlying5
 a5:=Tryz.isAgg5
 z5:=Tryz.sizeOf5
 v5:=Tryz.zeroValue5
 infoByte:=by kernel_rfl
 cellsByte:=by kernel_rfl
 sizeByte:=by kernel_rfl
 neB5:=by decide }
open Go.RowKit in
open Go.RowKit in
open Go.RowKit in
open Go.RowKit in
theorem Tryz.Builder_WriteByte_k (B b:Nat) (bs:List Value) (c:Int) (w:World) (h:Lib.IsBuilderF 85 5 B b bs w) (hlen:bs.length+1≤140737488355328) (hBw:B≤w.heap.size) :
  Calls Tryz.prog 175 #[.pointer (some ⟨b,0,none⟩),.int .u8 c] w fun e w'=>e=.returned .nilIface∧(Lib.BuilderAtF 85 5 B b (.pointer (some ⟨b,0,none⟩)) (bs++[.int .u8 c]) w'∧Below B w w'∧Lib.OthersKept 5 (some b) w w'):=Any.Builder_WriteByte_k Tryz.lays167 Tryz.Builder_Extra B b bs c w h hlen hBw
open Go.RowKit in
theorem Tryz.Builder_WriteString_k (B b:Nat) (bs:List Value) (s:ByteArray) (w:World) (h:Lib.IsBuilderF 85 5 B b bs w) (hlen:bs.length+s.size≤140737488355328) (hBw:B≤w.heap.size) :
  Calls Tryz.prog 96 #[.pointer (some ⟨b,0,none⟩),.string s] w fun e w'=>e=.returned (.tuple #[.int .i64 s.size,.nilIface])∧(Lib.BuilderAtF 85 5 B b (.pointer (some ⟨b,0,none⟩)) (bs++Lib.strCells s) w'∧Below B w w'∧Lib.OthersKept 5 (some b) w w'):=Any.Builder_WriteString_k Tryz.lays166 Tryz.Builder_Extra B b bs s w h hlen hBw
open Go.RowKit in
theorem Tryz.Builder_String_any_k (B b:Nat) (l:List UInt8) (w:World) (h:Lib.IsBuilderF 85 5 B b (Lib.byteCells l) w) (hBw:B≤w.heap.size) :
  Calls Tryz.prog 51 #[.pointer (some ⟨b,0,none⟩)] w fun e w'=>e=.returned (.string ⟨l.toArray⟩)∧(Lib.IsBuilderF 85 5 B b (Lib.byteCells l) w'∧Below B w w'∧Lib.OthersKept 5 (some b) w w'):=Any.Builder_String_any_k Tryz.lays169 Tryz.Builder_Extra B b l w h hBw
end Go.Proofs
namespace Go.Proofs.YtfkjfdbjhlmjcaaGreatDoor
open Go.RowKit Go.Shelf
attribute [local go_sem] Oper.semAt_some
def digArgs (f n:Nat):List (Array Value):=(digs f n).map fun c=>#[.int .u8 (c.toNat:Int)]
theorem zGd:∀f n,1≤(digs f n).length∧(digs f n).length≤f+1
 | 0,n=>by simp [digs]
 | f+1,n=>by
  rw [digs];split
  ·simp
  ·have:=zGd f (n / 128);simp;omega
def cellNum (w:World) (a:Addr):Nat:=match w.cell? a with|some (.int _ n)=>n.toNat|_=>0
theorem zNb {w:World} {a:Addr} {k:IntKind} {n:Int} (h:w.cell? a=some (.int k n)):cellNum w a=n.toNat:=by simp [cellNum,h]
theorem zRb (n:Nat) (hn:n<128 ^ 9) (w:World) (Bn:Nat) (c1:w.cell? ⟨Bn,0,none⟩=some (.int .i64 n)) (f1:w.frozen? ⟨Bn,0,none⟩=false) (hB:Bn<w.heap.size) :
  IterK Fence.wide 4 Tryz.prog 199 #[.pointer (some ⟨Bn,0,none⟩)] (digArgs 8 n) (fun A B=>B.heap[Bn]?=A.heap[Bn]?) (fun A B=>∃v,B=A.setCell ⟨Bn,0,none⟩ v) w:=by
 intro l J Jx W hW hJ hJx hY h0;have d1:W.cell? ⟨Bn,0,none⟩=some (.int .i64 n):=(hW.cell (p:=⟨Bn,0,none⟩) hB).trans c1;have g1:W.frozen? ⟨Bn,0,none⟩=false:=(hW.frozen (p:=⟨Bn,0,none⟩) hB).trans f1;clear c1 f1 hW;have HY:=lH hY;have HJ:=lH hJ;have HJx:=lH hJx;clear hY hJ hJx;show CallsIn Fence.wide 4 Tryz.prog 199 #[.func (.yield l) #[] #[],.pointer (some ⟨Bn,0,none⟩)] W _
 refine callsIn_of_wp Tryz.func199 rfl trivial ?_ rfl;simp only [Tryz.ntmps199,List.size_toArray,List.length_cons,List.length_nil,Nat.reduceAdd,Nat.reduceSub,Array.replicate_succ,Array.replicate_zero,List.push_toArray,List.append_toArray,List.nil_append,List.cons_append]
 gi_wp2
 gi_loopw [] (fun wr=>∃(k f m:Nat),m<128 ^ (f+1)∧m≤n∧wr.cell? ⟨Bn,0,none⟩=some (.int .i64 m)∧wr.frozen? ⟨Bn,0,none⟩=false∧Hid ((digArgs 8 n).drop k=digArgs f m)∧J k wr)
  (fun wr=>cellNum wr ⟨Bn,0,none⟩)
 case atStart=>exact ⟨0,8,n,hn,Nat.le_refl _,d1,g1,rfl,h0⟩
 case round=>
  obtain ⟨k,f,m,hm,hmn,e1,q1,HD,hJk⟩:=hrel;clear d1 g1 h0
  by_cases hlt:m<128
  ·have hm2:¬(128:Int)≤(m:Int):=by omega
   have HA:Hid (digArgs f m=[#[.int .u8 (m:Int)]]):=by
    show _=_
    have e:((UInt8.ofNat m).toNat:Int)=(m:Int):=by rw [UInt8.toNat_ofNat'];omega
    unfold digArgs
    cases f with
    | zero=>rw [digs];simp only [List.map_cons,List.map_nil,e]
    | succ f=>rw [digs,if_pos hlt];simp only [List.map_cons,List.map_nil,e]
   obtain ⟨hk,ha,hd⟩:=zGr (HD.o.trans HA.o)
   have hlen:k+1=(digArgs 8 n).length:=by
    have:=congrArg List.length hd;rw [List.length_drop,List.length_nil] at this;omega
   have HL:=lH hlen;clear hd hlen;have hy:=HY.o k hk wr hJk;rw [ha] at hy;obtain ⟨fn,tmps,assign,body,hy,hR⟩:=hy;clear ha
   gi_wp2
   refine hR.mono ?_;rintro e W3 (⟨rfl,hJ3,hk3⟩|⟨rfl,hJx3⟩)
   ·clear hR hy
    gi_wp2
    go_end0
    exact ⟨⟨_,rfl⟩,.inl (by rw [←HL.o];exact hJ3)⟩
   ·clear hR hy
    gi_wp2
    go_end0
    exact ⟨⟨_,rfl⟩,.inr ⟨k+1,by omega,hJx3⟩⟩
  ·have hm2:(128:Int)≤(m:Int):=by omega
   obtain ⟨f,rfl⟩:∃f',f=f'+1:=by
    cases f with
    | zero=>exact absurd hm (by simpa using hlt)
    | succ f=>exact ⟨f,rfl⟩
   have hm3:m / 128<128 ^ (f+1):=by rw [Nat.pow_succ] at hm;exact Nat.div_lt_of_lt_mul (by rw [Nat.mul_comm];exact hm)
   have HA:Hid (digArgs (f+1) m=#[.int .u8 ((m:Int) % 128+128)]::digArgs f (m / 128)):=by
    show _=_
    have e:((UInt8.ofNat (m % 128+128)).toNat:Int)=(m:Int) % 128+128:=by rw [UInt8.toNat_ofNat'];omega
    unfold digArgs;rw [digs,if_neg hlt,List.map_cons,e]
   have hmi:((m:Int) / 128)=((m / 128:Nat):Int):=by omega
   have hless:m / 128<m:=by omega
   obtain ⟨hk,ha,hd⟩:=zGr (HD.o.trans HA.o);have HD2:=lH hd;clear hd;have hy:=HY.o k hk wr hJk;rw [ha] at hy;obtain ⟨fn,tmps,assign,body,hy,hR⟩:=hy;clear ha hm;generalize hq:m / 128=q at *;have HQ:=lH hq;clear hq
   gi_wp2
   refine hR.mono ?_;rintro e W3 (⟨rfl,hJ3,hk3⟩|⟨rfl,hJx3⟩)
   ·have e1':W3.cell? ⟨Bn,0,none⟩=some (.int .i64 m):=(World.cell?_of_block (a:=⟨Bn,0,none⟩) hk3).trans e1
    have q1':W3.frozen? ⟨Bn,0,none⟩=false:=(World.frozen?_of_block (a:=⟨Bn,0,none⟩) hk3).trans q1;have hJ4:=lH (HJ.o (k+1) W3 (W3.setCell ⟨Bn,0,none⟩ (.int .i64 q)) hJ3 ⟨_,rfl⟩);clear hR hy
    gi_wp2
    go_roundw
    case rel=>
     refine ⟨k+1,f,q,hm3,by omega,World.cell?_setCell_same' _ _ _ (by rw [e1'];rfl),?_,HD2,hJ4.out⟩;rw [World.frozen?_setCell];exact q1'
    case measure=>
     rw [zNb e1,zNb (World.cell?_setCell_same' _ _ _ (by rw [e1'];rfl))];omega
   ·gi_wp2
    refine bodyPost_ret (results_none rfl _ _ _) rfl ?_;exact ⟨⟨_,rfl⟩,.inr ⟨k+1,by omega,hJx3⟩⟩
abbrev IsB (B b:Nat) (l:List UInt8) (w:World):Prop:=Lib.IsBuilderF 85 5 B b (Lib.byteCells l) w
theorem zFn {T e:TypeId} {B b:Nat} {p:Value} {bs:List Value} {A A':World} {row:Option Nat} (h:Lib.BuilderAtF T e B b p bs A) (hg:A.grownBy A' row) (hr:∀r,row=some r→r≠b∧∀c fz,A.heap[r]?≠some (.cells c e fz)):Lib.BuilderAtF T e B b p bs A':=by
 obtain ⟨hB,v,hb,hown,hne⟩:=h;refine ⟨hB,v,(hg.block b (Array.getElem?_eq_some_iff.1 hb).1 (fun e=>(hr b e.symm).1 rfl)).trans hb,hown.kept hg ?_,hne⟩
 cases hv:v.ownBlock with
 | none=>exact .inl rfl
 | some g=>
  right
  intro e';obtain ⟨c,fz,hc⟩:=Lib.ownsRowF_kind hown g hv;exact (hr g e'.symm).2 c fz hc
theorem zHq {T e:TypeId} {B b:Nat} {bs:List Value} {A A':World} {row:Option Nat} (h:Lib.IsBuilderF T e B b bs A) (hg:A.grownBy A' row) (hr:∀r,row=some r→r≠b∧∀c fz,A.heap[r]?≠some (.cells c e fz)):Lib.IsBuilderF T e B b bs A':=
 h.imp (fun h=>zFn h hg hr) (fun h=>zFn h hg hr)
theorem zIf {T e:TypeId} {B b:Nat} {bs:List Value} {A:World} (h:Lib.IsBuilderF T e B b bs A):b<A.heap.size∧∃c,A.heap[b]?=some (.cells c T (0,0)):=by
 rcases h with ⟨_,v,hb,_⟩|⟨_,v,hb,_⟩<;>exact ⟨(Array.getElem?_eq_some_iff.1 hb).1,_,hb⟩
theorem zL {T e:TypeId} {B b:Nat} {bs:List Value} {A A':World} {row:Option Nat} (h:Lib.IsBuilderF T e B b bs A) (hg:A.grownBy A' row) (hr:∀r,row=some r→∃o:Obj,A.heap[r]?=some o∧o.isCells=false):Lib.IsBuilderF T e B b bs A':=
 zHq h hg fun r e=>by
  obtain ⟨o,ho,hc⟩:=hr r e;refine ⟨fun e'=>?_,fun c fz hh=>?_⟩
  ·obtain ⟨_,c,hb⟩:=zIf h
   rw [e',hb] at ho;cases ho;cases hc
  ·rw [ho] at hh;cases hh;cases hc
theorem zSw (w:World) (p:Addr) (v:Value):w.grownBy (w.setCell p v) (some p.block):=⟨rfl,rfl,rfl,by simp [World.setCell],fun k _ hk=>Below.heap_setCell _ _ _ _ (fun e=>hk (by rw [e]))⟩
theorem zSx {T e:TypeId} {B b Bn:Nat} {bs:List Value} {A:World} (h:Lib.IsBuilderF T e B b bs A) {t:TypeId} {xs:Array Value} (hx:CBox A Bn t xs) (ht:t≠e) (hne:Bn≠b) (o:Nat) (v:Value):Lib.IsBuilderF T e B b bs (A.setCell ⟨Bn,o,none⟩ v):=
 zHq h (zSw A _ v) fun r e=>by
  obtain rfl:Bn=r:=by injection e
  refine ⟨hne,fun c fz hh=>?_⟩;have hx':A.heap[Bn]?=_:=hx;rw [hx'] at hh;cases hh;exact ht rfl
theorem zWh (n:Int) (w:World):Calls Tryz.prog 174 #[.int .i64 n] w fun e w'=>e=.returned (.func (.func 199) #[] #[.pointer (some ⟨w.heap.size,0,none⟩)])∧w.alloc (.cells #[.int .i64 n] 3)=w':=by
 go_enter Tryz.func174,Tryz.ntmps174
 go_wp2;go_ret;exact ⟨rfl,rfl⟩
theorem zLa {f n k:Nat} (hk:k<(digArgs f n).length):∃c,(digs f n)[k]?=some c∧(digArgs f n)[k]=#[.int .u8 (c.toNat:Int)]:=by
 have hk':k<(digs f n).length:=by simpa [digArgs] using hk
 have h:(digArgs f n)[k]?=some #[.int .u8 ((digs f n)[k].toNat:Int)]:=by unfold digArgs;rw [List.getElem?_map,List.getElem?_eq_getElem hk'];rfl
 exact ⟨(digs f n)[k],List.getElem?_eq_getElem hk',(List.getElem?_eq_some_iff.1 h).2⟩
theorem zLq (l:List UInt8) (c:UInt8):Lib.byteCells (l++[c])=Lib.byteCells l++[.int .u8 (c.toNat:Int)]:=by simp [Lib.byteCells]
theorem zIz (n:Nat) (hn:n<128 ^ 9) (B b:Nat) (l:List UInt8) (w:World) (h:IsB B b l w) (hl:l.length≤1000000) (hBw:B≤w.heap.size) :
  Calls Tryz.prog 145 #[.pointer (some ⟨b,0,none⟩),.int .i64 n] w fun e w'=>e=.returned (.tuple #[])∧IsB B b (l++intB n) w'∧Below B w w':=by
 have hbl:=(zIf h).1;refine (callsIn_wide (n:=5)).1 ?_;refine callsIn_of_wp_marks Tryz.func145 rfl trivial ?_ rfl;simp only [Tryz.ntmps145,List.size_toArray,List.length_cons,List.length_nil,Nat.reduceAdd,Nat.reduceSub,Array.replicate_succ,Array.replicate_zero,List.push_toArray,List.append_toArray,List.nil_append,List.cons_append]
 gi_wp2_with (refine ⟨trivial,?_⟩;gi_at_call 174;refine (callsIn_wide.2 (zWh _ _)).mono ?_;rintro e w' ⟨rfl,rfl⟩)
 generalize hW:(w.alloc (.cells #[.pointer (some ⟨b,0,none⟩)] 82)).alloc (.cells #[.int .i64 (n:Int)] 3)=W0;have hsz:W0.heap.size=w.heap.size+2:=by rw [←hW];simp
 have k0:CBox W0 w.heap.size 82 #[.pointer (some ⟨b,0,none⟩)]:=by rw [←hW];exact (CBox.new _ _ _).alloc _
 have k1:CBox W0 (w.heap.size+1) 3 #[.int .i64 (n:Int)]:=by rw [←hW];have:=CBox.new (w.alloc (.cells #[.pointer (some ⟨b,0,none⟩)] 82)) 3 #[.int .i64 (n:Int)];rwa [World.size_alloc] at this
 have hB0:IsB B b l W0:=by rw [←hW];exact (h.alloc _).alloc _
 have hbW:Below B w W0:=by rw [←hW];exact (zA (zAa _ _) (zAa _ _)).mono hBw
 clear hW h;have c1:=k1.cell (i:=0) rfl;have f1:=k1.frozen 0
 refine yAo rfl (by omega) (gf:=199) (lb:=#[.pointer (some ⟨w.heap.size+1,0,none⟩)]) rfl trivial (enters_of Tryz.func199 (by kernel_rfl) rfl)
  (zRb n hn W0 (w.heap.size+1) c1 f1 (by omega)) (fun a b c h k=>k.trans h) (fun W o o' _ _ _=>World.putObj_heap_other (by omega)) (zAl _)
  (fun k hk=>by obtain ⟨c,_,e⟩:=zLa hk;rw [e];rfl)
  (fun k W=>(CBox W w.heap.size 82 #[.pointer (some ⟨b,0,none⟩)]∧(∃x,CBox W (w.heap.size+1) 3 #[x])∧Hid (IsB B b (l++(digs 8 n).take k) W))∧Below B w W∧w.heap.size+2≤W.heap.size)
  (fun _ _ _=>False)
  ?own (fun c=>ownFrom_pure _ _)
  ?ab ?ia (fun c k A B h _=>h.elim) ⟨⟨k0,⟨_,k1⟩,lH (by simpa using hB0)⟩,hbW,by omega⟩
  (fun k a' _=>∃c,(digs 8 n)[k]?=some c∧a'={ tmps:=#[.pointer (some ⟨b,0,none⟩),.int .i64 n,.pointer (some ⟨w.heap.size,0,none⟩),undef,.int .u8 (c.toNat:Int),.int .i64 n,.func (.func 199) #[] #[.pointer (some ⟨w.heap.size+1,0,none⟩)],.int .u8 (c.toNat:Int),undef,undef,undef],defers:=[] })
  (fun _ _ _ _ _ _ hs _ _=>hs) ?assign ?body ?done ?stop
 case own=>
  rintro k A A' row ⟨⟨h0,⟨x,h1⟩,h2⟩,h3,h4⟩ hg hr
  have keep:∀{Bk:Nat} {t:TypeId} {xs:Array Value},CBox A Bk t xs→CBox A' Bk t xs:=fun hx=>(hg.block _ hx.lt (fun e=>by
   obtain ⟨_,o,ho,hc⟩:=hr _ e.symm;have hx':A.heap[_]?=_:=hx
   rw [hx'] at ho;cases ho;cases hc)).trans hx
  exact ⟨⟨keep h0,⟨x,keep h1⟩,zL h2.out hg (fun r e=>(hr r e).2)⟩,h3.grown hg (by have:=h3.size;omega) (fun r e=>by have:=(hr r e).1;omega),Nat.le_trans h4 hg.size⟩
 case ab=>
  rintro A A' ⟨v,rfl⟩ k o hk ho _;rw [Below.heap_setCell _ _ _ _ (by show k≠w.heap.size+1;omega)];exact ho
 case ia=>
  rintro k A A' ⟨⟨h0,⟨x,h1⟩,h2⟩,h3,h4⟩ ⟨v,rfl⟩;have m:Mod [w.heap.size+1] A (A.setCell ⟨w.heap.size+1,0,none⟩ v):=(Mod.refl _ _).setCell (by simp) _;exact ⟨⟨h0.mod m (by simp),⟨v,h1.set 0 v⟩,zSx h2.out h1 (by decide) (by omega) 0 v⟩,h3.setCell (by show B≤w.heap.size+1;omega) _,by simpa [World.setCell] using h4⟩
 case assign=>
  intro l' k hk W K hi hK;obtain ⟨c,hc,e⟩:=zLa hk;rw [e]
  gi_wp2
  exact hK _ _ (KeepsFrom.refl _ _) rfl hi ⟨c,hc,rfl⟩
 case body=>
  rintro l' k hk a' W ⟨⟨h0,⟨x,h1⟩,HB⟩,h3,h4⟩ ⟨c,hc,rfl⟩;have q0:=h0.cell (i:=0) rfl;have hkl:k<(digs 8 n).length:=(List.getElem?_eq_some_iff.1 hc).1;have hdl:=(zGd 8 n).2
  have hlen:(Lib.byteCells (l++(digs 8 n).take k)).length+1≤140737488355328:=by
   simp only [Lib.byteCells,List.length_map,List.length_append,List.length_take];omega
  have HC:=lH hc;have hBW:B≤W.heap.size:=by have:=h3.size;omega
  clear hc
  gi_wp2_with (refine ⟨trivial,?_⟩;gi_at_call 175;refine (CallsIn.inRound l' (callsIn_wide.2 (Tryz.Builder_WriteByte_k B b _ _ W HB.o hlen hBW))).mono ?_;rintro e w' ⟨rfl,hb',hbe,hot⟩)
  have hsz':=hbe.size;have keep:∀{Bk:Nat} {t:TypeId} {xs:Array Value},Bk≠b→t≠5→CBox W Bk t xs→CBox w' Bk t xs:=fun hne ht hx=>hot _ _ hx (fun e=>hne (by injection e)) (fun c fz e=>ht (by cases e;rfl));refine ⟨⟨hbe.size,fun k' o _ hk' ho=>hot k' o hk' (fun e=>?_) (fun c' fz e=>?_)⟩,?_,⟨keep (by omega) (by decide) h0,⟨x,keep (by omega) (by decide) h1⟩,?_⟩,h3.trans (hbe),by omega⟩
  ·obtain ⟨_,cb,hcb⟩:=zIf HB.o
   have e':k'=b:=by injection e
   rw [e',hcb] at hk';cases hk';cases ho
  ·rw [e] at ho;cases ho
  ·have h1':W.heap[w.heap.size+1]?=_:=h1
   exact (hot _ _ h1' (fun e=>by have:w.heap.size+1=b:=(by injection e);omega) (fun c fz e=>by cases e)).trans h1'.symm
  ·show IsB _ _ _ _
   rw [zJo HC.o,←List.append_assoc];unfold IsB;rw [zLq];exact .inr hb'
 case done=>
  rintro D W hD ⟨⟨h0,_,HB⟩,h3,h4⟩ hK;have hlen:(digArgs 8 n).length=(digs 8 n).length:=by simp [digArgs]
  rw [hlen,List.take_of_length_le (Nat.le_refl _)] at HB
  gi_wp2
  refine ⟨by simp,.inl ⟨_,_,rfl,run_takeDeferred hK,?_⟩⟩;refine ⟨.tuple #[],results_none rfl _ _ _,rfl,?_,h3.trans (belowK_b (w:=w) hBw _ D _ _ (by omega) hK rfl rfl)⟩;exact zL HB.o (grownBy_putObj' _ D (.deferred none)) (fun r e=>by cases e;exact ⟨_,hK,rfl⟩)
 case stop=>
  rintro D c k W hD hk h;exact h.elim
end Go.Proofs.YtfkjfdbjhlmjcaaGreatDoor
namespace Go.Proofs.YtfkjfdbjhlmjcaaGreatDoor
open Go.RowKit
theorem zLb (w:World):IsB w.heap.size w.heap.size [] (w.alloc (.cells #[.pointer none,.slice none 0 0] 85)):=
 Lib.IsBuilderF.of (.inl ⟨Nat.le_refl _,.slice none 0 0,World.alloc_heap_new _ _,World.ownsRow_nil _ _ _ _,by simp [Value.ownBlock]⟩)
theorem zSy (n:Nat) (hn:n≤1099511627776) (w:World):Calls Tryz.prog 144 #[.int .i64 n] w fun e w'=>e=.returned (.bool true)∧w=w':=by
 go_enter Tryz.func144,Tryz.ntmps144
 go_wp2;go_ret;exact ⟨zAb (by simp;omega),rfl⟩
theorem zWi (n:Nat) (hn:n≤1099511627776) (w:World):Calls Tryz.prog 95 #[.int .i64 n] w fun e w'=>e=.returned (.tuple #[.string ⟨(intB n).toArray⟩,.int .i64 0])∧Bw w w':=by
 have HB:=lH (zLb w)
 go_enter Tryz.func95,Tryz.ntmps95
 go_wp2_with (go_at_call 144;refine (zSy n hn _).mono ?_;rintro e w' ⟨rfl,rfl⟩)
 refine (zIz n (by omega) w.heap.size w.heap.size [] _ HB.o (by simp) (by simp)).mono ?_;rintro e w1 ⟨rfl,h1,hb1⟩;have H1:=lH h1;have hz:w.heap.size≤w1.heap.size:=by have:=hb1.size;simp at this;omega
 clear h1;go_wp2_with (go_at_call 51;refine (Tryz.Builder_String_any_k _ _ _ _ H1.o hz).mono ?_;rintro e w2 ⟨rfl,h2,hb2,-⟩)
 go_ret2;refine ⟨by simp,?_⟩;exact ((zAa w (.cells #[.pointer none,.slice none 0 0] 85)).trans hb1).trans hb2
theorem zGf (s:ByteArray):Lib.strCells s=Lib.byteCells s.data.toList:=by
 unfold Lib.strCells Lib.byteCells;rfl
theorem zSz (s:ByteArray) (hs:s.size≤65536) (w:World):Calls Tryz.prog 97 #[.string s] w fun e w'=>e=.returned (.tuple #[.string ⟨(intB s.size++s.data.toList).toArray⟩,.int .i64 0])∧Bw w w':=by
 have HB:=lH (zLb w)
 go_enter Tryz.func97,Tryz.ntmps97
 go_wp2_with (fail)
 refine (zIz s.size (by omega) w.heap.size w.heap.size [] _ HB.o (by simp) (by simp)).mono ?_;rintro e w1 ⟨rfl,h1,hb1⟩;have H1:=lH h1;have hz:w.heap.size≤w1.heap.size:=by have:=hb1.size;simp at this;omega
 have hdl:=(zGd 8 s.size).2
 have hlen:(Lib.byteCells ([]++intB s.size)).length+s.size≤140737488355328:=by
  simp only [Lib.byteCells,List.length_map,List.nil_append,intB];omega
 clear h1;go_wp2_with (fail)
 refine (Tryz.Builder_WriteString_k _ _ _ s _ H1.o hlen hz).mono ?_;rintro e w2 ⟨rfl,h2,hb2,-⟩
 have H2:Hid (IsB w.heap.size w.heap.size (intB s.size++s.data.toList) w2):=by
  show IsB _ _ _ _
  have e:Lib.byteCells (intB s.size++s.data.toList)=Lib.byteCells ([]++intB s.size)++Lib.strCells s:=by
   rw [zGf];simp [Lib.byteCells]
  unfold IsB;rw [e];exact .inr h2
 have hz2:w.heap.size≤w2.heap.size:=by have:=hb2.size;omega
 clear h2;go_wp2_with (go_at_call 51;refine (Tryz.Builder_String_any_k _ _ _ _ H2.o hz2).mono ?_;rintro e w3 ⟨rfl,h3,hb3,-⟩)
 go_ret2;refine ⟨rfl,?_⟩;exact (((zAa w (.cells #[.pointer none,.slice none 0 0] 85)).trans hb1).trans hb2).trans hb3
end Go.Proofs.YtfkjfdbjhlmjcaaGreatDoor
namespace Go.Proofs.YtfkjfdbjhlmjcaaGreatDoor
open Go.RowKit Go.Shelf
attribute [local go_sem] Oper.semAt_some
theorem yFh:liesAt Tryz.prog Tryz.prog.depth 87 (2 / Tryz.prog.cellsOf 87) 0 85 1=true:=by kernel_rfl
theorem yFb:(Tryz.prog.info? 85).map (·.size)=some 2:=by kernel_rfl
theorem yCs:(Tryz.prog.info? 5).map (fun i=>(i.zero,i.size,i.bytes))=some (some (.int .u8 0),1,1):=by kernel_rfl
theorem zWj:Tryz.prog.cellsOf 5=1:=by kernel_rfl
theorem zWk (b:Nat) (w:World) (h0:w.cell? ⟨b,0,none⟩=some (.pointer (some ⟨b,0,none⟩))) :
  Calls Tryz.prog 146 #[.pointer (some ⟨b,0,none⟩)] w fun e w'=>e=.returned (.tuple #[])∧w'=w:=by
 obtain ⟨j,hj,_⟩:=Option.map_eq_some_iff.1 yFb
 go_enter Tryz.func146,Tryz.ntmps146
 go_wp2;rw [Lib.run_neq_ptr_same w _ Tryz.underlying82 hj];go_wp2
 go_end0
 exact ⟨rfl,rfl⟩
theorem zT (b:Nat) (w:World) (h0:w.cell? ⟨b,0,none⟩=some (.pointer none)) (hsh:w.shape? b=some (87,2)) (hfz:w.frozen? ⟨b,0,none⟩=false) :
  Calls Tryz.prog 146 #[.pointer (some ⟨b,0,none⟩)] w fun e w'=>e=.returned (.tuple #[])∧w'=w.setCell ⟨b,0,none⟩ (.pointer (some ⟨b,0,none⟩)):=by
 obtain ⟨j,hj,hjs⟩:=Option.map_eq_some_iff.1 yFb
 go_enter Tryz.func146,Tryz.ntmps146
 go_wp2;rw [Lib.run_to_unsafe w ⟨b,0,none⟩ Tryz.underlying82 Tryz.underlying202 hj (by rw [hjs];decide) hsh (Nat.zero_lt_succ 1)];simp only [Result.andThen]
 rw [Oper.upon_value];go_wp2;rw [run_callFunc_extern Tryz.func176 (by kernel_rfl) (by kernel_rfl) (by kernel_rfl) (e:=Extern.AbiNoEscape.same) (by kernel_rfl)];rw [Lib.run_noEscape];simp only [Result.andThen]
 rw [Oper.upon_value];go_wp2;rw [Lib.run_from_unsafe w ⟨b,0,none⟩ Tryz.underlying202 Tryz.underlying82 hj hsh yFh];simp only [Result.andThen]
 rw [Oper.upon_value];go_wp2
 go_end0
 exact ⟨rfl,rfl⟩
abbrev Kp8 (b:Nat) (w w':World):Prop:=Lib.OthersKept 5 (some b) w w'
theorem Kp8.box {b:Nat} {w w':World} (h:Kp8 b w w') {k:Nat} {t:TypeId} {xs:Array Value} (hx:CBox w k t xs) (hk:k≠b) (ht:t≠5):CBox w' k t xs:=
 h k _ hx (fun e=>hk (by injection e)) (fun c fz e=>ht (by cases e;rfl))
theorem zLc {b:Nat} {w w':World} (h:Bw w w'):Kp8 b w w':=(Lib.OthersKept.refl _ _ w).below h
abbrev BW (B b:Nat) (p:Value) (bs:List Value) (w:World):Prop:=Lib.BuilderAt 87 5 B b p bs w
def IsW (B b:Nat) (l:List UInt8) (w:World):Prop:=Lib.IsBuilder 87 5 B b (Lib.byteCells l) w
theorem yAd (B b:Nat) (bs:List Value) (w:World) (h:Lib.IsBuilder 87 5 B b bs w) :
  Calls Tryz.prog 146 #[.pointer (some ⟨b,0,none⟩)] w fun e w'=>e=.returned (.tuple #[])∧(BW B b (.pointer (some ⟨b,0,none⟩)) bs w'∧Below B w w'∧Kp8 b w w'):=by
 rcases h with h|h
 ·refine (zT b w h.cell0 h.shape h.frozen0).mono ?_
  rintro e w' ⟨rfl,rfl⟩;exact ⟨rfl,h.used _,(Below.refl B w).setCell (p:=⟨b,0,none⟩) h.1 _,(Lib.OthersKept.refl _ _ w).setCell ⟨b,0,none⟩ rfl _⟩
 ·refine (zWk b w h.cell0).mono ?_
  rintro e w' ⟨rfl,rfl⟩;exact ⟨rfl,h,Below.refl B _,Lib.OthersKept.refl _ _ _⟩
theorem zNc (B b:Nat) (l:List UInt8) (s:ByteArray) (w:World) (h:IsW B b l w) (hlen:l.length+s.size≤140737488355328) (hBw:B≤w.heap.size) :
  Calls Tryz.prog 96 #[.pointer (some ⟨b,0,none⟩),.string s] w fun e w'=>e=.returned (.tuple #[.int .i64 s.size,.nilIface])∧IsW B b (l++s.data.toList) w'∧Below B w w'∧Kp8 b w w':=by
 obtain ⟨i0,hi,hz0,hz1,hz2⟩:=info_parts yCs;have hbl:(Lib.byteCells l).length=l.length:=Lib.byteCells_length l;generalize hbs:Lib.byteCells l=bs at hbl;have HBS:=lH hbs;have H:Hid (Lib.IsBuilder 87 5 B b bs w):=by show Lib.IsBuilder _ _ _ _ _ _;rw [←hbs];exact h
 have hln:bs.length+s.size≤140737488355328:=by omega
 clear h hbs hbl hlen
 go_enter Tryz.func96,Tryz.ntmps96
 go_wp2_with (fail)
 refine (yAd B b bs _ H.o).mono ?_;rintro e w1 ⟨rfl,h1,hb1,hk1⟩;obtain ⟨hB,v,hbk,hown,hne⟩:=h1;have HK1:=lH (hk1);have HOW:=lH hown;clear hk1;have c0:w1.cell? ⟨b,0,none⟩=some (.pointer (some ⟨b,0,none⟩)):=by rw [Lib.cell_of_heap hbk];rfl
 have c1:w1.cell? ⟨b,1,none⟩=some v:=by rw [Lib.cell_of_heap hbk];rfl
 go_wp2_with (at_builtin;refine Lib.wpList_append_own_string _ rfl _ _ 83 9 rfl B 5 i0 Tryz.underlying83 Tryz.underlying9 hi hz0 hz1 hz2 _ _ _ rfl hown s rfl ?c3 ?c4 ?c5 ?_)
 case c3=>unfold maxLen;omega
 case c4=>omega
 case c5=>have:=hb1.size;omega
 intro v' w2 hown' hgrow _;have hlt:b<w1.heap.size:=(Array.getElem?_eq_some_iff.1 hbk).1
 have hb2:w2.heap[b]?=some (.cells #[.pointer (some ⟨b,0,none⟩),v] 87 (0,0)):=by
  rw [hgrow.block b hlt (fun e=>hne e.symm)];exact hbk
 have d0:w2.cell? ⟨b,0,none⟩=some (.pointer (some ⟨b,0,none⟩)):=by rw [Lib.cell_of_heap hb2];rfl
 have d1:w2.cell? ⟨b,1,none⟩=some v:=by rw [Lib.cell_of_heap hb2];rfl
 have f1:w2.frozen? ⟨b,1,none⟩=false:=Lib.frozen_of_heap hb2 1
 obtain ⟨ao,n',cap,rfl⟩:∃ao n' cap,v'=.slice ao n' cap:=by
  rcases hown'.2 with ⟨hv,_⟩|⟨g,cap,cur,hv,_⟩
  ·exact ⟨_,_,_,hv⟩
  ·exact ⟨_,_,_,hv⟩
 go_wp2;go_ret2;refine ⟨rfl,?_,?_,?_⟩
 ·have e:Lib.byteCells (l++s.data.toList)=bs++Lib.strCells s:=by rw [zGf,←HBS.o];simp [Lib.byteCells]
  unfold IsW;rw [e];exact .inr (Lib.BuilderAt.put (T:=87) (e:=5) hB hb2 (bs':=bs++Lib.strCells s) (by simpa [Lib.strCells_length] using hown') (by decide))
 ·exact (hb1.grown hgrow (by have:=hb1.size;omega) (fun k hk=>(hown.lt k hk).1)).setCell (p:=⟨b,1,none⟩) hB _
 ·exact (HK1.o.grown hgrow (fun g hg=>Lib.ownsRow_kind HOW.o g hg)).setCell ⟨b,1,none⟩ rfl _
theorem zTa (B b:Nat) (l:List UInt8) (w:World) (h:IsW B b l w) (h0:l≠[]) :
  Calls Tryz.prog 51 #[.pointer (some ⟨b,0,none⟩)] w fun e w'=>e=.returned (.string ⟨l.toArray⟩)∧Below B w w':=by
 obtain ⟨p,hB,v,hbk,hown,hne⟩:∃p,BW B b p (Lib.byteCells l) w:=by
  rcases h with h|h
  ·exact ⟨_,h⟩
  ·exact ⟨_,h⟩
 have hl0:l.length≠0:=by simpa using h0
 rw [Lib.byteCells_length] at hown
 obtain ⟨g,cap,cur,rfl,hbg,hg,hnc,hcm,hcs,htake⟩:∃g cap cur,v=.slice (some ⟨g,0,none⟩) l.length cap∧B≤g∧w.heap[g]?=some (.cells cur 5 (0,0))∧l.length≤cap∧cap≤maxLen∧cur.size=cap * 1∧cur.toList.take (l.length * 1)=Lib.byteCells l:=by
  rcases hown.2 with ⟨_,hz⟩|⟨g,cap,cur,hv,r⟩
  ·exact absurd hz hl0
  ·exact ⟨g,cap,cur,hv,r⟩
 have c1:w.drew.cell? ⟨b,1,none⟩=some (.slice (some ⟨g,0,none⟩) l.length cap):=by
  have:w.drew.heap[b]?=some (.cells #[p,.slice (some ⟨g,0,none⟩) l.length cap] 87 (0,0)):=hbk;rw [Lib.cell_of_heap this];rfl
 have hSD:(Builtin.unsafeSliceData_ #[83] 143 #[.slice (some ⟨g,0,none⟩) l.length cap]).run Tryz.prog w.drew=.ok (.pointer (some ⟨g,0,none⟩)) w.drew:=
  Lib.run_unsafeSliceData_row _ _ _ _ _ _ (by omega)
 have hUS:(Builtin.unsafeString_ #[143,3] 9 #[.pointer (some ⟨g,0,none⟩),.int .i64 l.length]).run Tryz.prog w.drew=.ok (.string ⟨l.toArray⟩) (w.drew.freeze ⟨g,0,none⟩ l.length):=by
  refine Lib.run_unsafeString_row w.drew 143 3 9 5 Tryz.underlying143 zWj g cur.size (by have hg':w.drew.heap[g]?=some (.cells cur 5 (0,0)):=hg;simp [World.shape?,hg']) l h0 (by omega) (by unfold maxLen at hcm;omega) ?_;intro j x hx;exact hown.cells (g:=g) rfl j (.int .u8 x.toNat) (by simp [Lib.byteCells,hx])
 have mixed:Tryz.prog.follows .mixedOrders=true:=by kernel_rfl
 go_enter Tryz.func51,Tryz.ntmps51
 go_wp2
 go_region_o
 all_goals (go_wp2;go_ret;exact ⟨rfl,Lib.below_freeze (Below.drew (Below.refl B w)) (p:=⟨g,0,none⟩) hbg _⟩)
theorem zTb (n:Int) (hn:¬(0≤n∧n≤1099511627776)) (w:World):Calls Tryz.prog 144 #[.int .i64 n] w fun e w'=>e=.returned (.bool false)∧w=w':=by
 by_cases h0:0≤n
 ·have h1:¬n≤1099511627776:=fun h=>hn ⟨h0,h⟩
  have q1:decide (0≤n)=true:=decide_eq_true h0;have q2:decide (n≤1099511627776)=false:=decide_eq_false h1
  go_enter Tryz.func144,Tryz.ntmps144
  go_wp2;go_ret;exact ⟨by first|rfl|exact zAb (by simp;omega),rfl⟩
 ·have q1:decide (0≤n)=false:=decide_eq_false h0
  go_enter Tryz.func144,Tryz.ntmps144
  go_wp2;go_ret;exact ⟨by first|rfl|exact zAb (by simp;omega),rfl⟩
theorem zWl (n:Int) (w:World):Calls Tryz.prog 95 #[.int .i64 n] w fun e w'=>(∃k,e=.returned (.tuple #[.string ⟨(putI n).toArray⟩,.int .i64 k]))∧Below w.heap.size w w':=by
  by_cases h:0≤n∧n≤1099511627776
  · obtain ⟨m,rfl⟩:=Int.eq_ofNat_of_zero_le h.1
    refine (zWi m (by omega) w).mono ?_
    rintro e w' ⟨rfl,hb⟩
    refine ⟨⟨0,?_⟩,hb⟩
    unfold putI
    rw [if_pos h,Int.toNat_natCast]
  · have e:putI n=[]:=by unfold putI;rw [if_neg h]
    rw [e]
    have HB:=Lib.hid (zTb n h)
    clear h
    go_enter Tryz.func95,Tryz.ntmps95
    go_wp2_with (fail)
    refine (HB.o _).mono ?_
    rintro e w' ⟨rfl,rfl⟩
    go_wp2
    go_ret2
    exact ⟨⟨2,rfl⟩,zAl _⟩
theorem zTc (s:ByteArray) (w:World):Calls Tryz.prog 97 #[.string s] w fun e w'=>(∃k,e=.returned (.tuple #[.string ⟨(putT s).toArray⟩,.int .i64 k]))∧Bw w w':=by
 by_cases h:s.size≤65536
 ·refine (zSz s h w).mono ?_
  rintro e w' ⟨rfl,hb⟩;refine ⟨⟨0,?_⟩,hb⟩;unfold putT;rw [if_pos h]
 ·have e:putT s=[]:=by unfold putT;rw [if_neg h]
  rw [e];have q:decide ((65536:Int)<(s.size:Int))=true:=decide_eq_true (by omega)
  go_enter Tryz.func97,Tryz.ntmps97
  go_wp2;go_ret2;exact ⟨⟨4,rfl⟩,zAl _⟩
theorem zTd:∀f n,(digs f n).length≤f+1
 | 0,n=>by simp [digs]
 | f+1,n=>by
  rw [digs];split
  ·simp
  ·have:=zTd f (n / 128);simp;omega
theorem zBf (n:Int):(putI n).length≤9:=by
 unfold putI;split
 ·exact zTd 8 _
 ·simp
theorem zCt (s:ByteArray):(putT s).length≤9+s.size:=by
 unfold putT;split
 ·rw [List.length_append,zCy];have:=zTd 8 s.size;unfold intB;omega
 ·simp
theorem yCt (x:Ex):SmX 40000 x→(encX x).length≤100000 * nodesN x:=by
 refine Ex.ind (P:=fun x=>SmX 40000 x→(encX x).length≤100000 * nodesN x) (fun x ih hs=>?_) x
 have key:∀l:List Ex,(∀y∈l,(encX y).length≤100000 * nodesN y)→(encL l).length≤100000 * nodesL l:=by
  intro l
  induction l with
  | nil=>intro _;simp [encL]
  | cons y r ihr=>
   intro h;rw [encL,nodesL,List.length_append];have h1:=h y (List.mem_cons_self ..);have h2:=ihr (fun z hz=>h z (List.mem_cons_of_mem _ hz));omega
 have h:=key x.subs (fun y hy=>ih y hy (hs.subs y hy));rw [zOl,zBc];simp only [List.length_append]
 have a1:=zBf x.kind;have a2:=zCt x.name;have a3:=zCt x.more;have a4:=zBf (twice x.num);have a5:=zBf x.den;have a6:=zBf x.subs.length;have b1:=hs.name;have b2:=hs.more;omega
theorem zUn:∀{l:List ByteArray},(∀s∈l,s.size≤40000)→(encN l).length≤50000 * l.length
 | [],_=>by simp [encN]
 | s::r,h=>by
  have h1:=zUn (l:=r) (fun t ht=>h t (List.mem_cons_of_mem _ ht));have h2:=zCt s;have h3:=h s (List.mem_cons_self ..);unfold encN at h1 ⊢;rw [List.flatMap_cons,List.length_append,List.length_cons];omega
theorem yCu {d:ODecl} (h:SmD d) (hN:nodesN d.body≤1000000):(encD d).length≤1000000000000:=by
 unfold encD;simp only [List.length_append]
 have a1:=zBf d.id;have a2:=zBf d.kind;have a3:(putB d.pub).length≤9:=zBf _;have a4:(putB d.doubt).length≤9:=zBf _;have a5:=zBf d.names.length;have a6:=zUn h.names;have a7:=yCt d.body h.body;have:=h.len;omega
theorem IsW.below {B b:Nat} {l:List UInt8} {w w':World} (h:IsW B b l w) (m:Bw w w'):IsW B b l w':=by
 have one:∀p,BW B b p (Lib.byteCells l) w→BW B b p (Lib.byteCells l) w':=fun p ⟨hB,v,hb,hown,hne⟩=>
  ⟨hB,v,(m.block b (Array.getElem?_eq_some_iff.1 hb).1).trans hb,zAq hown m,hne⟩
 rcases h with h|h
 ·exact .inl (one _ h)
 ·exact .inr (one _ h)
theorem IsW.lt {B b:Nat} {l:List UInt8} {w:World} (h:IsW B b l w):b<w.heap.size:=by
 rcases h with ⟨_,v,hb,_⟩|⟨_,v,hb,_⟩<;>exact (Array.getElem?_eq_some_iff.1 hb).1
def WPost (B b:Nat) (l m:List UInt8) (w:World) (e:Ending) (w':World):Prop:=e=.returned (.tuple #[])∧IsW B b (l++m) w'∧Below B w w'∧Kp8 b w w'
theorem zBs (n:Int) (B b:Nat) (l:List UInt8) (w:World) (h:IsW B b l w) (hl:l.length≤10000000000000) (hBw:B≤w.heap.size) :
  Calls Tryz.prog 48 #[.pointer (some ⟨b,0,none⟩),.int .i64 n] w fun e w'=>WPost B b l (putI n) w e w':=by
 have H:=lH h;have HP:=lH (zWl n w);have hsz:l.length+(⟨(putI n).toArray⟩:ByteArray).size≤140737488355328:=by rw [zAt];have:=zBf n;omega
 generalize putI n=m at *;clear h
 go_enter Tryz.func48,Tryz.ntmps48
 go_wp2_with (fail)
 refine HP.o.mono ?_;rintro e w1 ⟨⟨k,rfl⟩,hb1⟩;have HW:=lH (zNc B b l ⟨m.toArray⟩ w1 (H.o.below hb1) hsz (Nat.le_trans hBw hb1.size));have hbl:=(H.o.below hb1).lt;have HB1:=lH hb1;clear hb1 HP;go_wp2_with (fail)
 refine HW.o.mono ?_;rintro e w2 ⟨rfl,h2,hb2,hk2⟩;have H2:=lH h2;have HB2:=lH ((HB1.o.mono hBw).trans hb2);have HK2:=lH ((zLc (b:=b) HB1.o).trans hk2);clear h2 hb2 hk2 HW;go_wp2
 go_end0
 exact ⟨rfl,H2.o,HB2.o,HK2.o⟩
theorem zFo (s:ByteArray) (B b:Nat) (l:List UInt8) (w:World) (h:IsW B b l w) (hl:l.length≤10000000000000) (hs:s.size≤1000000) (hBw:B≤w.heap.size) :
  Calls Tryz.prog 49 #[.pointer (some ⟨b,0,none⟩),.string s] w fun e w'=>WPost B b l (putT s) w e w':=by
 have H:=lH h;have HP:=lH (zTc s w);have hsz:l.length+(⟨(putT s).toArray⟩:ByteArray).size≤140737488355328:=by rw [zAt];have:=zCt s;omega
 generalize putT s=m at *;clear h
 go_enter Tryz.func49,Tryz.ntmps49
 go_wp2_with (fail)
 refine HP.o.mono ?_;rintro e w1 ⟨⟨k,rfl⟩,hb1⟩;have HW:=lH (zNc B b l ⟨m.toArray⟩ w1 (H.o.below hb1) hsz (Nat.le_trans hBw hb1.size));have hbl:=(H.o.below hb1).lt;have HB1:=lH hb1;clear hb1 HP;go_wp2_with (fail)
 refine HW.o.mono ?_;rintro e w2 ⟨rfl,h2,hb2,hk2⟩;have H2:=lH h2;have HB2:=lH ((HB1.o.mono hBw).trans hb2);have HK2:=lH ((zLc (b:=b) HB1.o).trans hk2);clear h2 hb2 hk2 HW;go_wp2
 go_end0
 exact ⟨rfl,H2.o,HB2.o,HK2.o⟩
theorem zNd (t:Bool) (B b:Nat) (l:List UInt8) (w:World) (h:IsW B b l w) (hl:l.length≤10000000000000) (hBw:B≤w.heap.size) :
  Calls Tryz.prog 98 #[.pointer (some ⟨b,0,none⟩),.bool t] w fun e w'=>WPost B b l (putB t) w e w':=by
 have HN:=lH (fun n=>zBs n B b l w h hl hBw);clear h hl hBw
 cases t
 all_goals
  unfold putB;simp only [Bool.false_eq_true,if_false,if_true]
  go_enter Tryz.func98,Tryz.ntmps98
  go_wp2_with (fail)
  refine (HN.o _).mono ?_;rintro e w' ⟨rfl,h2,hb2,hk2⟩;go_wp2
  go_end0
  exact ⟨rfl,h2,hb2,hk2⟩
def WX (x:Ex):Prop:=∀(w0 w:World) (b:Nat) (l:List UInt8) (xa:Option Addr) (xc:Nat),Reads w0 [] (subsT x.subs) (.slice xa x.subs.length xc)→Below w0.heap.size w0 w→IsW w0.heap.size b l w→EncOk x→SmX 40000 x→l.length+(encX x).length≤10000000000000→nodesN x≤1000000 →
  Calls Tryz.prog 99 #[.pointer (some ⟨b,0,none⟩),exV x xa xc] w fun e w'=>WPost w0.heap.size b l (encX x) w e w'
theorem EncOk.num {x:Ex} (h:EncOk x):-500000000000≤x.num∧x.num≤500000000000:=by cases h;exact ⟨by assumption,by assumption⟩
theorem EncOk.subs {x:Ex} (h:EncOk x):∀y∈x.subs,EncOk y:=by cases h;assumption
theorem zOt {l:List Ex} {i:Nat} {x:Ex} (h:l[i]?=some x):encL (l.drop i)=encX x++encL (l.drop (i+1)):=by
 obtain ⟨hi,e⟩:=List.getElem?_eq_some_iff.1 h;rw [List.drop_eq_getElem_cons hi,e,encL]
theorem yAe (x:Ex):WX x:=by
 refine Ex.ind (P:=WX) (fun x ih=>?_) x;intro w0 w b l xa xc hx hb hW hok hs hln hnn;have hsz:w0.heap.size≤w.heap.size:=hb.size;have hbl:=hW.lt;have HA:=lH (zAa w (.cells (xA x xa xc) 60));have HXB:=lH (CBox.new w 60 (xA x xa xc));have HI0:=lH (hW.below HA.o);have HE:Hid (encX x=putI x.kind++(putT x.name++(putT x.more++(putI (twice x.num)++(putI x.den++(putI x.subs.length++encL x.subs)))))):=zOl x
 have hlx:l.length+((putI x.kind).length+((putT x.name).length+((putT x.more).length+((putI (twice x.num)).length+((putI x.den).length+((putI x.subs.length).length+(encL x.subs).length))))))≤10000000000000:=by
  have:=congrArg List.length HE.o;simp only [List.length_append] at this
  omega
 have hnm:=hs.name;have hmr:=hs.more;have hnl:=zBq x.subs;have hne:=zBc x;have HSB:=lH hs.subs;have HOK:=lH hok.subs;have HNM:=lH hok.num;have HR:=lH hx;have HIH:=lH ih;have HB0:=lH hb;have HQ0:=lH (HA.o.mono hsz);have HK0:=lH (zLc (b:=b) HA.o);have hsn:x.subs.length≤1000000:=by omega
 obtain ⟨R,hR⟩:∃R,w.heap.size=R:=⟨_,rfl⟩;obtain ⟨Z,hZ⟩:∃Z,w0.heap.size=Z:=⟨_,rfl⟩;rw [hZ] at hsz HI0 HQ0;rw [hR] at hsz hbl HXB;have hrb:R≠b:=by omega
 have HZ:=lH hZ;have hzr:Z≤(w.alloc (.cells (xA x xa xc) 60)).heap.size:=by rw [World.size_alloc,hR];omega
 clear hx hb hW hok hs ih hln HA;rw [hZ,HE.o];unfold exV;clear hZ
 go_enter Tryz.func99,Tryz.ntmps99
 go_upto_region 1 with (fail)
 (try rw [hR])
 generalize World.alloc w _=W0 at *;clear hR;have x0:=HXB.o.cell (i:=0) (v:=.int .i64 x.kind) rfl;have xl:=HXB.o.lt;go_wp2_with (fail)
 refine (zBs (x.kind) Z b l W0 HI0.o (by (try simp only [List.length_append]);omega) hzr).mono ?_;rintro e w1 ⟨rfl,h1,hb1,hk1⟩;have HI1:=lH h1;have HQ1:=lH (HQ0.o.trans hb1);have HK1:=lH (HK0.o.trans hk1);have HX1:=lH (hk1.box HXB.o hrb (by decide));have hz1:Z≤w1.heap.size:=Nat.le_trans hzr hb1.size;clear h1 hb1 hk1 HI0 HQ0 HK0 HXB x0 xl;have x1:=HX1.o.cell (i:=1) (v:=.string x.name) rfl;have xl:=HX1.o.lt;go_wp2_with (fail)
 refine (zFo (x.name) Z b (l++putI x.kind) w1 HI1.o (by (try simp only [List.length_append]);omega) (by omega) hz1).mono ?_;rintro e w2 ⟨rfl,h2,hb2,hk2⟩;have HI2:=lH h2;have HQ2:=lH (HQ1.o.trans hb2);have HK2:=lH (HK1.o.trans hk2);have HX2:=lH (hk2.box HX1.o hrb (by decide));have hz2:Z≤w2.heap.size:=Nat.le_trans hz1 hb2.size;clear h2 hb2 hk2 HI1 HQ1 HK1 HX1 x1 xl;have x2:=HX2.o.cell (i:=2) (v:=.string x.more) rfl;have xl:=HX2.o.lt;go_wp2_with (fail)
 refine (zFo (x.more) Z b (l++putI x.kind++putT x.name) w2 HI2.o (by (try simp only [List.length_append]);omega) (by omega) hz2).mono ?_;rintro e w3 ⟨rfl,h3,hb3,hk3⟩;have HI3:=lH h3;have HQ3:=lH (HQ2.o.trans hb3);have HK3:=lH (HK2.o.trans hk3);have HX3:=lH (hk3.box HX2.o hrb (by decide));have hz3:Z≤w3.heap.size:=Nat.le_trans hz2 hb3.size;clear h3 hb3 hk3 HI2 HQ2 HK2 HX2 x2 xl;have y3:=HX3.o.cell (i:=3) (v:=.int .i64 x.num) rfl;have yl:=HX3.o.lt;obtain ⟨hn1,hn2⟩:=HNM.o;go_upto_if 20 with (fail)
 go_cut [] from 20 to 32 (fun wx=>Hid (WPost Z b (l++putI x.kind++putT x.name++putT x.more) (putI (twice x.num)) w3 (.returned (.tuple #[])) wx))
 case first=>
  by_cases hneg:x.num<0
  ·have q1:decide (x.num<0)=true:=decide_eq_true hneg
   have et:twice x.num=-2 * x.num+1:=by unfold twice;rw [if_pos hneg];omega
   have HC:=lH (zBs (-2 * x.num+1) Z b (l++putI x.kind++putT x.name++putT x.more) w3 HI3.o (by (try simp only [List.length_append]);omega) hz3);have HET:=lH et;clear et;go_wp2_with (fail)
   refine HC.o.mono ?_;rintro e w4 ⟨rfl,h4,hb4,hk4⟩;go_wp2;go_meet
   case rel=>exact ⟨rfl,by rw [HET.o];exact h4,hb4,hk4⟩
  ·have q1:decide (x.num<0)=false:=decide_eq_false hneg
   have et:twice x.num=2 * x.num:=by unfold twice;rw [if_neg hneg]
   have HC:=lH (zBs (2 * x.num) Z b (l++putI x.kind++putT x.name++putT x.more) w3 HI3.o (by (try simp only [List.length_append]);omega) hz3);have HET:=lH et;clear et;go_wp2_with (fail)
   refine HC.o.mono ?_;rintro e w4 ⟨rfl,h4,hb4,hk4⟩;go_wp2;go_meet
   case rel=>exact ⟨rfl,by rw [HET.o];exact h4,hb4,hk4⟩
 case rest=>
 obtain ⟨-,h4,hb4,hk4⟩:=hcut.out;generalize wc=w4 at *;have HI4:=lH h4;have HQ4:=lH (HQ3.o.trans hb4);have HK4:=lH (HK3.o.trans hk4);have HX4:=lH (hk4.box HX3.o hrb (by decide));have hz4:Z≤w4.heap.size:=Nat.le_trans hz3 hb4.size;clear h4 hb4 hk4 hcut HI3 HQ3 HK3 HX3 y3 yl;have x4:=HX4.o.cell (i:=4) (v:=.int .i64 x.den) rfl;have xl:=HX4.o.lt;go_wp2_with (fail)
 refine (zBs (x.den) Z b (l++putI x.kind++putT x.name++putT x.more++putI (twice x.num)) w4 HI4.o (by (try simp only [List.length_append]);omega) hz4).mono ?_;rintro e w5 ⟨rfl,h5,hb5,hk5⟩;have HI5:=lH h5;have HQ5:=lH (HQ4.o.trans hb5);have HK5:=lH (HK4.o.trans hk5);have HX5:=lH (hk5.box HX4.o hrb (by decide));have hz5:Z≤w5.heap.size:=Nat.le_trans hz4 hb5.size;clear h5 hb5 hk5 HI4 HQ4 HK4 HX4 x4 xl;have x5:=HX5.o.cell (i:=5) (v:=.slice xa x.subs.length xc) rfl;have xl:=HX5.o.lt;go_wp2_with (fail)
 refine (zBs (x.subs.length) Z b (l++putI x.kind++putT x.name++putT x.more++putI (twice x.num)++putI x.den) w5 HI5.o (by (try simp only [List.length_append]);omega) hz5).mono ?_;rintro e w6 ⟨rfl,h6,hb6,hk6⟩;have HI6:=lH h6;have HQ6:=lH (HQ5.o.trans hb6);have HK6:=lH (HK5.o.trans hk6);have HX6:=lH (hk6.box HX5.o hrb (by decide));have hz6:Z≤w6.heap.size:=Nat.le_trans hz5 hb6.size;clear h6 hb6 hk6 HI5 HQ5 HK5 HX5 x5 xl
 obtain ⟨P,hP⟩:∃P,l++putI x.kind++putT x.name++putT x.more++putI (twice x.num)++putI x.den++putI x.subs.length=P:=⟨_,rfl⟩;have hPl:P.length+(encL x.subs).length≤10000000000000:=by rw [←hP];simp only [List.length_append];omega
 have HT:Hid (P++encL x.subs=l++(putI x.kind++(putT x.name++(putT x.more++(putI (twice x.num)++(putI x.den++(putI x.subs.length++encL x.subs))))))):=by show _=_;rw [←hP];simp only [List.append_assoc]
 rw [hP] at HI6;have HI6':Hid (∃m,IsW Z b (P++m) w6∧m++encL (x.subs.drop 0)=encL x.subs):=⟨[],by rw [List.append_nil];exact HI6.o,rfl⟩;have x5:=HX6.o.cell (i:=5) (v:=.slice xa x.subs.length xc) rfl;have xl:=HX6.o.lt;clear hP hlx HI6;go_wp2;clear x5 xl
 go_loopw [44] (fun iv wr=>∃i:Nat,i≤x.subs.length∧iv=.int .i64 i∧Hid (∃m,IsW Z b (P++m) wr∧m++encL (x.subs.drop i)=encL x.subs)∧Hid (Below Z w wr)∧Hid (Kp8 b w wr)∧Z≤wr.heap.size) (fun iv _=>x.subs.length - (intOf iv).toNat)
 case atStart=>exact ⟨0,Nat.zero_le _,rfl,HI6',HQ6,HK6,hz6⟩
 case round=>
  clear HI6' HQ6 HK6 HX6;obtain ⟨i,hil,rfl,HM,HQ,HK,hz⟩:=hrel;obtain ⟨m,hm,hme⟩:=HM.o
  by_cases hi:i<x.subs.length
  ·have hd:decide ((i:Int)<(x.subs.length:Int))=true:=decide_eq_true (by omega)
   have hir:(i:Int)<(x.subs.length:Int):=by omega
   obtain ⟨y,hy⟩:∃y,x.subs[i]?=some y:=⟨_,List.getElem?_eq_getElem hi⟩;have hym:=List.mem_of_getElem? hy;obtain ⟨sb,so,ya,yc,rfl,hbl2,z0,z1,z2,z3,z4,z5,hc1,hc2,hyr⟩:=zAx HR.o hy;have HBW:Hid (Bw w0 wr):=HB0.o.trans (by rw [HZ.o];exact HQ.o);have hbr:sb<wr.heap.size:=Nat.lt_of_lt_of_le hbl2 HBW.o.size;have y0:=(HBW.o.cell (p:=⟨sb,_,none⟩) hbl2).trans z0;have y1:=(HBW.o.cell (p:=⟨sb,_,none⟩) hbl2).trans z1;have y2:=(HBW.o.cell (p:=⟨sb,_,none⟩) hbl2).trans z2
   have y3:=(HBW.o.cell (p:=⟨sb,_,none⟩) hbl2).trans z3;have y4:=(HBW.o.cell (p:=⟨sb,_,none⟩) hbl2).trans z4;have y5:=(HBW.o.cell (p:=⟨sb,_,none⟩) hbl2).trans z5;have HA2:=lH (zAa wr (.cells (xA y ya yc) 60))
   have hlen:(P++m).length+(encX y).length≤10000000000000:=by
    have h1:=congrArg List.length hme;rw [zOt hy] at h1;simp only [List.length_append] at h1 ⊢
    omega
   have hyn:nodesN y≤1000000:=by have:=zCw hym;omega
   have HC:=HIH.o y hym w0 _ b (P++m) ya yc hyr.out (HBW.o.trans (HA2.o.mono (HBW.o.size))) (by rw [HZ.o];exact hm.below HA2.o) (HOK.o y hym) (HSB.o y hym) hlen hyn;unfold exV at HC;rw [HZ.o] at HC;have HC:=lH HC;have HN:Hid ((m++encX y)++encL (x.subs.drop (i+1))=encL x.subs):=by show _=_;rw [List.append_assoc,←zOt hy];exact hme
   have HQ2:=lH (HQ.o.trans (HA2.o.mono hz));have HK2:=lH (HK.o.below HA2.o);have hz2:Z≤(wr.alloc (.cells (xA y ya yc) 60)).heap.size:=Nat.le_trans hz HA2.o.size;clear z0 z1 z2 z3 z4 z5 hym hy hlen hm hme HM hbl2 HBW HQ HK HA2;go_wp2_with (fail)
   refine HC.o.mono ?_;rintro e w7 ⟨rfl,h7,hb7,hk7⟩;rw [List.append_assoc] at h7;have HM7:Hid (∃m,IsW Z b (P++m) w7∧m++encL (x.subs.drop (i+1))=encL x.subs):=⟨_,h7,HN.o⟩;have HQ7:=lH (HQ2.o.trans hb7);have HK7:=lH (HK2.o.trans hk7);have hz7:Z≤w7.heap.size:=Nat.le_trans hz2 hb7.size;clear h7 hb7 hk7 HC HN HQ2 HK2 y0 y1 y2 y3 y4 y5 hbr hz2;go_wp2;go_roundw
   case rel=>exact ⟨i+1,by omega,by go_num,HM7,HQ7,HK7,hz7⟩
   case measure=>simp [intOf];omega
  ·have hd:decide ((i:Int)<(x.subs.length:Int))=false:=decide_eq_false (by omega)
   have he:encL (x.subs.drop i)=[]:=by rw [List.drop_eq_nil_of_le (by omega)];rfl
   rw [he,List.append_nil] at hme;have HF:Hid (IsW Z b (l++(putI x.kind++(putT x.name++(putT x.more++(putI (twice x.num)++(putI x.den++(putI x.subs.length++encL x.subs))))))) wr):=by show IsW _ _ _ _;rw [←HT.o,←hme];exact hm
   clear hm hme he HM;go_wp2
   go_end0
   exact ⟨rfl,HF.o,HQ.o,HK.o⟩
theorem zTe {l:List ByteArray} {i:Nat} {s:ByteArray} (h:l[i]?=some s):encN (l.drop i)=putT s++encN (l.drop (i+1)):=by
 obtain ⟨hi,e⟩:=List.getElem?_eq_some_iff.1 h;unfold encN;rw [List.drop_eq_getElem_cons hi,e,List.flatMap_cons]
theorem zUo (d:ODecl):(encD d).length=(putI d.id).length+((putI d.kind).length+((putB d.pub).length+((putB d.doubt).length+((putI d.names.length).length+((encN d.names).length+(encX d.body).length))))):=by
 unfold encD;simp only [List.length_append]
theorem zTf {l:List ODecl} {i:Nat} {d:ODecl} (h:l[i]?=some d):(l.drop i).flatMap encD=encD d++(l.drop (i+1)).flatMap encD:=by
 obtain ⟨hi,e⟩:=List.getElem?_eq_some_iff.1 h;rw [List.drop_eq_getElem_cons hi,e,List.flatMap_cons]
theorem zNe (ds:List ODecl) (w0 w:World) (b:Nat) (l:List UInt8) (va:Option Addr) (vc:Nat) (hx:Reads w0 [] (declsT ds) (.slice va ds.length vc)) (hb:Bw w0 w) (hW:IsW w0.heap.size b l w) (hok:∀d∈ds,DecOk d) (hs:∀d∈ds,SmD d∧nodesN d.body≤1000000) (hln:l.length+(encDs ds).length≤10000000000000) (hdn:ds.length≤1000000) :
  Calls Tryz.prog 50 #[.pointer (some ⟨b,0,none⟩),.slice va ds.length vc] w fun e w'=>WPost w0.heap.size b l (encDs ds) w e w':=by
 have hsz:w0.heap.size≤w.heap.size:=hb.size;have HE:Hid (encDs ds=putI ds.length++ds.flatMap encD):=rfl
 have hlx:l.length+((putI ds.length).length+(ds.flatMap encD).length)≤10000000000000:=by
  have:=congrArg List.length HE.o;rw [List.length_append] at this;omega
 have HOK:=lH hok;have HS:=lH hs;have HR:=lH hx;have HB0:=lH hb;obtain ⟨Z,hZ⟩:∃Z,w0.heap.size=Z:=⟨_,rfl⟩;have HI0:=lH hW;rw [hZ] at hsz HI0;have HZ:=lH hZ;clear hx hb hW hok hs hln;rw [hZ,HE.o];clear hZ
 go_enter Tryz.func50,Tryz.ntmps50
 go_wp2_with (fail)
 refine (zBs ds.length Z b l w HI0.o (by omega) hsz).mono ?_;rintro e w1 ⟨rfl,h1,hb1,hk1⟩;have HQ1:=lH hb1;have HK1:=lH hk1;have hz1:Z≤w1.heap.size:=Nat.le_trans hsz hb1.size;obtain ⟨P,hP⟩:∃P,l++putI ds.length=P:=⟨_,rfl⟩;have hPl:P.length+(ds.flatMap encD).length≤10000000000000:=by rw [←hP,List.length_append];omega
 have HT:Hid (P++ds.flatMap encD=l++(putI ds.length++ds.flatMap encD)):=by show _=_;rw [←hP,List.append_assoc]
 rw [hP] at h1;have HM1:Hid (∃m,IsW Z b (P++m) w1∧m++(ds.drop 0).flatMap encD=ds.flatMap encD):=⟨[],by rw [List.append_nil];exact h1,rfl⟩;clear h1 hb1 hk1 hP hlx HI0;go_wp2
 go_loopw [14] (fun iv wr=>∃i:Nat,i≤ds.length∧iv=.int .i64 i∧Hid (∃m,IsW Z b (P++m) wr∧m++(ds.drop i).flatMap encD=ds.flatMap encD)∧Hid (Below Z w wr)∧Hid (Kp8 b w wr)∧Z≤wr.heap.size) (fun iv _=>ds.length - (intOf iv).toNat)
 case atStart=>exact ⟨0,Nat.zero_le _,rfl,HM1,HQ1,HK1,hz1⟩
 case round=>
  clear HM1 HQ1 HK1 hz1;obtain ⟨i,hil,rfl,HM,HQ,HK,hz⟩:=hrel;obtain ⟨m,hm,hme⟩:=HM.o
  by_cases hi:i<ds.length
  ·have hd:decide ((i:Int)<(ds.length:Int))=true:=decide_eq_true (by omega)
   have hir:(i:Int)<(ds.length:Int):=by omega
   obtain ⟨d,hy⟩:∃d,ds[i]?=some d:=⟨_,List.getElem?_eq_getElem hi⟩;have hym:=List.mem_of_getElem? hy;obtain ⟨sb,so,an,cn,sa,cs,rfl,hbl2,zc,hn1,hn2,hyn,hc1,hc2,hyr⟩:=zAv HR.o hy;have HBW:Hid (Bw w0 wr):=HB0.o.trans (by have h:=HQ.o;rw [←HZ.o] at h;exact h);have hbr:sb<wr.heap.size:=Nat.lt_of_lt_of_le hbl2 HBW.o.size;have y0:wr.cell? ⟨sb,so+i * 11,none⟩=some (.int .i64 d.id):=(HBW.o.cell (p:=⟨sb,_,none⟩) hbl2).trans (zc 0 _ rfl)
   have y1:wr.cell? ⟨sb,so+i * 11+1,none⟩=some (.int .i64 d.kind):=(HBW.o.cell (p:=⟨sb,_,none⟩) hbl2).trans (zc 1 _ rfl);have y2:wr.cell? ⟨sb,so+i * 11+2,none⟩=some (.bool d.pub):=(HBW.o.cell (p:=⟨sb,_,none⟩) hbl2).trans (zc 2 _ rfl);have y3:wr.cell? ⟨sb,so+i * 11+3,none⟩=some (.slice an d.names.length cn):=(HBW.o.cell (p:=⟨sb,_,none⟩) hbl2).trans (zc 3 _ rfl);have y4:wr.cell? ⟨sb,so+i * 11+4,none⟩=some (.bool d.doubt):=(HBW.o.cell (p:=⟨sb,_,none⟩) hbl2).trans (zc 4 _ rfl)
   have y5:wr.cell? ⟨sb,so+i * 11+5,none⟩=some (.int .i64 d.body.kind):=(HBW.o.cell (p:=⟨sb,_,none⟩) hbl2).trans (zc 5 _ rfl);have y6:wr.cell? ⟨sb,so+i * 11+6,none⟩=some (.string d.body.name):=(HBW.o.cell (p:=⟨sb,_,none⟩) hbl2).trans (zc 6 _ rfl);have y7:wr.cell? ⟨sb,so+i * 11+7,none⟩=some (.string d.body.more):=(HBW.o.cell (p:=⟨sb,_,none⟩) hbl2).trans (zc 7 _ rfl);have y8:wr.cell? ⟨sb,so+i * 11+8,none⟩=some (.int .i64 d.body.num):=(HBW.o.cell (p:=⟨sb,_,none⟩) hbl2).trans (zc 8 _ rfl)
   have y9:wr.cell? ⟨sb,so+i * 11+9,none⟩=some (.int .i64 d.body.den):=(HBW.o.cell (p:=⟨sb,_,none⟩) hbl2).trans (zc 9 _ rfl);have y10:wr.cell? ⟨sb,so+i * 11+10,none⟩=some (.slice sa d.body.subs.length cs):=(HBW.o.cell (p:=⟨sb,_,none⟩) hbl2).trans (zc 10 _ rfl);obtain ⟨_,_,hne,hnc1,hnc2,hncell⟩:=(zAg.1 hyn.out).1.shape
   cases hne
   have HNC:=lH hncell;have HYR:=lH hyr.out;have HA2:=lH (zAa wr (.cells (dA d an cn sa cs) 62));have HXB:=lH (CBox.new wr 62 (dA d an cn sa cs));obtain ⟨hsm,hnn⟩:=HS.o d hym;have HDO:=lH (HOK.o d hym);have HSN:=lH hsm.names;have hnl:=hsm.len;have HBD:=lH hsm.body;obtain ⟨Q,hQ⟩:∃Q,P++m=Q:=⟨_,rfl⟩
   have hlen:Q.length+((putI d.id).length+((putI d.kind).length+((putB d.pub).length+((putB d.doubt).length+((putI d.names.length).length+((encN d.names).length+(encX d.body).length))))))≤10000000000000:=by
    have h1:=congrArg List.length hme;have h2:=zUo d;rw [zTf hy] at h1;rw [←hQ];simp only [List.length_append] at h1 ⊢
    omega
   have HN:Hid ((m++encD d)++(ds.drop (i+1)).flatMap encD=ds.flatMap encD):=by show _=_;rw [List.append_assoc,←zTf hy];exact hme
   have HQD:Hid (Q++(putI d.id++(putI d.kind++(putB d.pub++(putB d.doubt++(putI d.names.length++(encN d.names++encX d.body))))))=P++(m++encD d)):=by show _=_;rw [←hQ,List.append_assoc];rfl
   rw [hQ] at hm;have HI2:=lH (hm.below HA2.o);have hbl:=hm.lt;have HQ2:=lH (HQ.o.trans (HA2.o.mono hz));have HK2:=lH (HK.o.below HA2.o);obtain ⟨R,hR⟩:∃R,wr.heap.size=R:=⟨_,rfl⟩;rw [hR] at hbl HXB;have hrb:R≠b:=by omega
   have hz2:Z≤(wr.alloc (.cells (dA d an cn sa cs) 62)).heap.size:=by rw [World.size_alloc];omega
   clear zc hym hy hm hme HM hbl2 HBW HQ HK HA2 hQ hsm hncell hyn hyr;go_upto_region 4 with (fail)
   clear y0 y1 y2 y3 y4 y5 y6 y7 y8 y9 y10 hbr
   (try rw [hR])
   generalize World.alloc wr _=W2 at *;clear hR hz;have x0:=HXB.o.cell (i:=0) (v:=.int .i64 d.id) rfl;have xl:=HXB.o.lt;go_wp2_with (fail)
   refine (zBs (d.id) Z b Q W2 HI2.o (by (try simp only [List.length_append]);omega) hz2).mono ?_;rintro e w10 ⟨rfl,h10,hb10,hk10⟩;have HI10:=lH h10;have HQ10:=lH (HQ2.o.trans hb10);have HK10:=lH (HK2.o.trans hk10);have HX10:=lH (hk10.box HXB.o hrb (by decide));have hz10:Z≤w10.heap.size:=Nat.le_trans hz2 hb10.size;clear h10 hb10 hk10 HI2 HQ2 HK2 HXB x0 xl;have x1:=HX10.o.cell (i:=1) (v:=.int .i64 d.kind) rfl;have xl:=HX10.o.lt;go_wp2_with (fail)
   refine (zBs (d.kind) Z b (Q++putI d.id) w10 HI10.o (by (try simp only [List.length_append]);omega) hz10).mono ?_;rintro e w11 ⟨rfl,h11,hb11,hk11⟩;have HI11:=lH h11;have HQ11:=lH (HQ10.o.trans hb11);have HK11:=lH (HK10.o.trans hk11);have HX11:=lH (hk11.box HX10.o hrb (by decide));have hz11:Z≤w11.heap.size:=Nat.le_trans hz10 hb11.size;clear h11 hb11 hk11 HI10 HQ10 HK10 HX10 x1 xl;have x2:=HX11.o.cell (i:=2) (v:=.bool d.pub) rfl;have xl:=HX11.o.lt;go_wp2_with (fail)
   refine (zNd (d.pub) Z b (Q++putI d.id++putI d.kind) w11 HI11.o (by (try simp only [List.length_append]);omega) hz11).mono ?_;rintro e w12 ⟨rfl,h12,hb12,hk12⟩;have HI12:=lH h12;have HQ12:=lH (HQ11.o.trans hb12);have HK12:=lH (HK11.o.trans hk12);have HX12:=lH (hk12.box HX11.o hrb (by decide));have hz12:Z≤w12.heap.size:=Nat.le_trans hz11 hb12.size;clear h12 hb12 hk12 HI11 HQ11 HK11 HX11 x2 xl;have x4:=HX12.o.cell (i:=4) (v:=.bool d.doubt) rfl;have xl:=HX12.o.lt;go_wp2_with (fail)
   refine (zNd (d.doubt) Z b (Q++putI d.id++putI d.kind++putB d.pub) w12 HI12.o (by (try simp only [List.length_append]);omega) hz12).mono ?_;rintro e w13 ⟨rfl,h13,hb13,hk13⟩;have HI13:=lH h13;have HQ13:=lH (HQ12.o.trans hb13);have HK13:=lH (HK12.o.trans hk13);have HX13:=lH (hk13.box HX12.o hrb (by decide));have hz13:Z≤w13.heap.size:=Nat.le_trans hz12 hb13.size;clear h13 hb13 hk13 HI12 HQ12 HK12 HX12 x4 xl;have x3:=HX13.o.cell (i:=3) (v:=.slice an d.names.length cn) rfl;have xl:=HX13.o.lt;go_wp2_with (fail)
   refine (zBs (d.names.length) Z b (Q++putI d.id++putI d.kind++putB d.pub++putB d.doubt) w13 HI13.o (by (try simp only [List.length_append]);omega) hz13).mono ?_;rintro e w14 ⟨rfl,h14,hb14,hk14⟩;have HI14:=lH h14;have HQ14:=lH (HQ13.o.trans hb14);have HK14:=lH (HK13.o.trans hk14);have HX14:=lH (hk14.box HX13.o hrb (by decide));have hz14:Z≤w14.heap.size:=Nat.le_trans hz13 hb14.size;clear h14 hb14 hk14 HI13 HQ13 HK13 HX13 x3 xl
   obtain ⟨U,hU⟩:∃U,Q++putI d.id++putI d.kind++putB d.pub++putB d.doubt++putI d.names.length=U:=⟨_,rfl⟩;have hUl:U.length+((encN d.names).length+(encX d.body).length)≤10000000000000:=by rw [←hU];simp only [List.length_append];omega
   have HUQ:Hid (U++(encN d.names++encX d.body)=P++(m++encD d)):=by show _=_;rw [←HQD.o,←hU];simp only [List.append_assoc]
   rw [hU] at HI14;have HU0:Hid (∃n,IsW Z b (U++n) w14∧n++encN (d.names.drop 0)=encN d.names):=⟨[],by rw [List.append_nil];exact HI14.o,rfl⟩;have x3:=HX14.o.cell (i:=3) (v:=.slice an d.names.length cn) rfl;have xl:=HX14.o.lt;clear hU hlen HI14 HQD;go_wp2;clear x3 xl;generalize wr=wo at *
   go_loopw [42] (fun jv wr=>∃j:Nat,j≤d.names.length∧jv=.int .i64 j∧Hid (∃n,IsW Z b (U++n) wr∧n++encN (d.names.drop j)=encN d.names)∧Hid (Below Z w wr)∧Hid (Kp8 b w wr)∧Z≤wr.heap.size∧Hid (CBox wr R 62 (dA d an cn sa cs))) (fun jv _=>d.names.length - (intOf jv).toNat)
   case atStart=>exact ⟨0,Nat.zero_le _,rfl,HU0,HQ14,HK14,hz14,HX14⟩
   case round=>
    clear HU0 HQ14 HK14 HX14;obtain ⟨j,hjl,rfl,HM,HQ,HK,hz,HX⟩:=hrel;obtain ⟨n,hn,hne⟩:=HM.o
    by_cases hj:j<d.names.length
    ·have hd2:decide ((j:Int)<(d.names.length:Int))=true:=decide_eq_true (by omega)
     have hjr:(j:Int)<(d.names.length:Int):=by omega
     obtain ⟨s,hs⟩:∃s,d.names[j]?=some s:=⟨_,List.getElem?_eq_getElem hj⟩;obtain ⟨nb,no,rfl,hnb,hncl⟩:=HNC.o j hj;have HBW:Hid (Bw w0 wr):=HB0.o.trans (by have h:=HQ.o;rw [←HZ.o] at h;exact h);have hnr:nb<wr.heap.size:=Nat.lt_of_lt_of_le hnb HBW.o.size
     have hcs:wr.cell? ⟨nb,no+j,none⟩=some (.string s):=by
      have:=(HBW.o.cell (p:=⟨nb,no+j,none⟩) hnb).trans (hncl j hj);rwa [show d.names.getD j ByteArray.empty=s from zDw hs] at this
     have hss:=HSN.o s (List.mem_of_getElem? hs)
     have hlen:(U++n).length+(putT s).length≤10000000000000:=by
      have h1:=congrArg List.length hne;rw [zTe hs] at h1;simp only [List.length_append] at h1 ⊢
      omega
     have HN2:Hid ((n++putT s)++encN (d.names.drop (j+1))=encN d.names):=by show _=_;rw [List.append_assoc,←zTe hs];exact hne
     have HC:=lH (zFo s Z b (U++n) wr hn (by omega) (by omega) hz);clear hs hncl hnb HBW hn hne HM hlen;go_wp2_with (fail)
     refine HC.o.mono ?_;rintro e w7 ⟨rfl,h7,hb7,hk7⟩;rw [List.append_assoc] at h7;have HM7:Hid (∃n,IsW Z b (U++n) w7∧n++encN (d.names.drop (j+1))=encN d.names):=⟨_,h7,HN2.o⟩;have HQ7:=lH (HQ.o.trans hb7);have HK7:=lH (HK.o.trans hk7);have hz7:Z≤w7.heap.size:=Nat.le_trans hz hb7.size;have HX7:=lH (hk7.box HX.o hrb (by decide));clear h7 hb7 hk7 HC HN2 hcs hnr HQ HK HX hz;go_wp2;go_roundw
     case rel=>exact ⟨j+1,by omega,by go_num,HM7,HQ7,HK7,hz7,HX7⟩
     case measure=>simp [intOf];omega
    ·have hd2:decide ((j:Int)<(d.names.length:Int))=false:=decide_eq_false (by omega)
     have he:encN (d.names.drop j)=[]:=by rw [List.drop_eq_nil_of_le (by omega)];rfl
     rw [he,List.append_nil] at hne;subst hne;have HC:=yAe d.body w0 wr b (U++encN d.names) sa cs HYR.o (HB0.o.trans (by have h:=HQ.o;rw [←HZ.o] at h;exact h)) (by rw [HZ.o];exact hn) HDO.o.body HBD.o (by rw [List.length_append];omega) hnn;unfold exV at HC;rw [HZ.o] at HC;have HC:=lH HC;obtain ⟨-,-,-,-,-,x5,x6,x7,x8,x9,x10,xl⟩:=zAz HX.o;clear hn he HM;go_wp2_with (fail)
     refine HC.o.mono ?_;rintro e w8 ⟨rfl,h8,hb8,hk8⟩;rw [List.append_assoc,HUQ.o] at h8;have HM8:Hid (∃m,IsW Z b (P++m) w8∧m++(ds.drop (i+1)).flatMap encD=ds.flatMap encD):=⟨_,h8,HN.o⟩;have HQ8:=lH (HQ.o.trans hb8);have HK8:=lH (HK.o.trans hk8);have hz8:Z≤w8.heap.size:=Nat.le_trans hz hb8.size;clear h8 hb8 hk8 HC HN HQ HK HX hz x5 x6 x7 x8 x9 x10 xl hj hjl;go_wp2;go_roundw
     case rel=>exact ⟨i+1,by omega,by go_num,HM8,HQ8,HK8,hz8⟩
     case measure=>simp [intOf];omega
  ·have hd:decide ((i:Int)<(ds.length:Int))=false:=decide_eq_false (by omega)
   have he:(ds.drop i).flatMap encD=[]:=by rw [List.drop_eq_nil_of_le (by omega)];rfl
   rw [he,List.append_nil] at hme;have HF:Hid (IsW Z b (l++(putI ds.length++ds.flatMap encD)) wr):=by show IsW _ _ _ _;rw [←HT.o,←hme];exact hm
   clear hm hme he HM;go_wp2
   go_end0
   exact ⟨rfl,HF.o,HQ.o,HK.o⟩
def encS (e:OEdit):ByteArray:=if editErr e=0 then ⟨(encE e).toArray⟩ else ⟨#[]⟩
theorem IsW.new (w:World) (Z:Nat) (hz:Z≤w.heap.size):IsW Z w.heap.size [] (w.alloc (.cells #[.pointer none,.slice none 0 0] 87)):=
 .inl ⟨hz,.slice none 0 0,World.alloc_heap_new _ _,World.ownsRow_nil _ _ _ _,by simp [Value.ownBlock]⟩
theorem yCv {n:Int} (h0:0≤n) (h1:n≤1099511627776):putI n≠[]:=by
 unfold putI;rw [if_pos ⟨h0,h1⟩];intro c;have:=zGd 8 n.toNat;unfold intB at c;rw [c] at this;simp at this
theorem zHr {ds:List ODecl} (h:∀d∈ds,SmD d∧nodesN d.body≤1000000) (hl:ds.length≤1):(encDs ds).length≤1000000000100:=by
 unfold encDs;rw [List.length_append];have a1:=zBf ds.length
 have h2:(ds.flatMap encD).length≤1000000000000:=by
  cases ds with
  | nil=>exact Nat.zero_le _
  | cons d r=>
   cases r with
   | nil=>
    rw [List.flatMap_cons,List.flatMap_nil,List.append_nil];exact yCu (h d (List.mem_singleton.2 rfl)).1 (h d (List.mem_singleton.2 rfl)).2
   | cons d2 r=>rw [List.length_cons,List.length_cons] at hl;omega
 omega
theorem zWm (e:OEdit) (ao:Option Addr) (co:Nat) (af:Option Addr) (cf:Nat) (w:World) (he:EditIn w e ao co af cf) (hs:SmE e) :
  Calls Tryz.prog 19 #[editV e ao co af cf] w fun r w'=>r=.returned (.tuple #[.string (encS e),.int .i64 (editErr e)])∧Bw w w':=by
 have HA:=lH (zAa w (.cells #[.int .i64 e.kind,.string e.pack,.string e.text,.slice ao e.old.length co,.slice af e.fresh.length cf] 39));have HXB:=lH (CBox.new w 39 #[.int .i64 e.kind,.string e.pack,.string e.text,.slice ao e.old.length co,.slice af e.fresh.length cf]);have HCK:=lH (zMl e ao co af cf _ (he.below HA.o) hs);have HOK:Hid (editErr e=0→EdiOk e):=fun h=>zJk h hs;have HS:=lH hs;have HR:=lH he;have HE0:Hid (editErr e=0→encS e=⟨(encE e).toArray⟩):=fun h=>by unfold encS;rw [if_pos h]
 have HE1:Hid (editErr e≠0→encS e=⟨#[]⟩):=fun h=>by unfold encS;rw [if_neg h]
 obtain ⟨Z,hZ⟩:∃Z,w.heap.size=Z:=⟨_,rfl⟩;have HZ:=lH hZ;unfold editV at HCK ⊢;generalize editErr e=E at *;clear he hs
 go_enter Tryz.func19,Tryz.ntmps19
 go_upto_region 1 with (fail)
 rw [hZ] at HXB
 (try rw [hZ])
 have HA':Hid (Below Z w (w.alloc (.cells #[.int .i64 e.kind,.string e.pack,.string e.text,.slice ao e.old.length co,.slice af e.fresh.length cf] 39))):=by show RowKit.Below _ _ _;rw [←hZ];exact HA.o
 generalize World.alloc w _=W0 at *;clear hZ HA;have x0:=HXB.o.cell (i:=0) (v:=.int .i64 e.kind) rfl;have x1:=HXB.o.cell (i:=1) (v:=.string e.pack) rfl;have x2:=HXB.o.cell (i:=2) (v:=.string e.text) rfl;have x3:=HXB.o.cell (i:=3) (v:=.slice ao e.old.length co) rfl;have x4:=HXB.o.cell (i:=4) (v:=.slice af e.fresh.length cf) rfl;have xl:=HXB.o.lt;go_wp2_with (fail)
 refine HCK.o.mono ?_;rintro r w1 ⟨rfl,hb1⟩;have HX1:=lH (HXB.o.below hb1);have hzw:Z≤w1.heap.size:=by have h1:=HXB.o.lt;have h2:=hb1.size;omega
 have HQ1:=lH (HA'.o.trans (hb1.mono (by have h1:=HXB.o.lt;omega)));clear hb1 HCK HXB HA' x0 x1 x2 x3 x4 xl
 by_cases h0:E=0
 rotate_left
 ·have q1:(E != 0)=true:=by simp [h0]
  have HE:=lH (HE1.o h0);clear h0 HE0 HE1 HOK;go_wp2;go_ret2;exact ⟨by rw [HE.o];rfl,by have h:=HQ1.o;rw [←HZ.o] at h;exact h⟩
 have q1:(E != 0)=false:=by rw [h0];rfl
 have HE:=lH (HE0.o h0);have HO:=lH (HOK.o h0);subst h0;clear HE0 HE1 HOK;have hbx:=HX1.o.lt;have HI2:=lH (IsW.new w1 Z hzw);have hq2:=zAa w1 (.cells #[.pointer none,.slice none 0 0] 87);have HX2:=lH (HX1.o.below hq2);have HQ2:=lH (HQ1.o.trans (hq2.mono hzw));obtain ⟨b,hbe⟩:∃b,w1.heap.size=b:=⟨_,rfl⟩;have hz2:Z≤(w1.alloc (.cells #[.pointer none,.slice none 0 0] 87)).heap.size:=by rw [World.size_alloc];omega
 have HK2:=lH (Lib.OthersKept.refl 5 (some b) (w1.alloc (.cells #[.pointer none,.slice none 0 0] 87)));rw [hbe] at HI2 hbx;have hrb:Z≠b:=by omega
 clear hq2 HX1 HQ1;go_upto_region 5 with (fail)
 (try rw [hbe])
 generalize World.alloc w1 _=W2 at *;clear hbe;have hpk:=HS.o.pack;have htx:=HS.o.text;have a1:=zBf e.kind;have a2:=zCt e.pack;have a3:=zCt e.text;have b1:=zHr HS.o.old HO.o.olen;have b2:=zHr HS.o.fresh HO.o.flen;have x0:=HX2.o.cell (i:=0) (v:=.int .i64 e.kind) rfl;have xl:=HX2.o.lt;go_wp2_with (fail)
 refine (zBs (e.kind) Z b [] W2 HI2.o (by simp only [List.length_nil];omega) hz2).mono ?_;rintro e w10 ⟨rfl,h10,hb10,hk10⟩;have HI10:=lH h10;have HQ10:=lH (HQ2.o.trans hb10);have HK10:=lH (HK2.o.trans hk10);have HX10:=lH (hk10.box HX2.o hrb (by decide));have hz10:Z≤w10.heap.size:=Nat.le_trans hz2 hb10.size;clear h10 hb10 hk10 HI2 HQ2 HK2 HX2 x0 xl;have x1:=HX10.o.cell (i:=1) (v:=.string e.pack) rfl;have xl:=HX10.o.lt;go_wp2_with (fail)
 refine (zFo (e.pack) Z b ([]++putI e.kind) w10 HI10.o (by simp only [List.length_append,List.length_nil];omega) (by omega) hz10).mono ?_;rintro e w11 ⟨rfl,h11,hb11,hk11⟩;have HI11:=lH h11;have HQ11:=lH (HQ10.o.trans hb11);have HK11:=lH (HK10.o.trans hk11);have HX11:=lH (hk11.box HX10.o hrb (by decide));have hz11:Z≤w11.heap.size:=Nat.le_trans hz10 hb11.size;clear h11 hb11 hk11 HI10 HQ10 HK10 HX10 x1 xl;have x2:=HX11.o.cell (i:=2) (v:=.string e.text) rfl;have xl:=HX11.o.lt;go_wp2_with (fail)
 refine (zFo (e.text) Z b ([]++putI e.kind++putT e.pack) w11 HI11.o (by simp only [List.length_append,List.length_nil];omega) (by omega) hz11).mono ?_;rintro e w12 ⟨rfl,h12,hb12,hk12⟩;have HI12:=lH h12;have HQ12:=lH (HQ11.o.trans hb12);have HK12:=lH (HK11.o.trans hk12);have HX12:=lH (hk12.box HX11.o hrb (by decide));have hz12:Z≤w12.heap.size:=Nat.le_trans hz11 hb12.size;clear h12 hb12 hk12 HI11 HQ11 HK11 HX11 x2 xl
 have HC:=zNe e.old w w12 b ([]++putI e.kind++putT e.pack++putT e.text) ao co HR.o.old (by have h:=HQ12.o;rw [←HZ.o] at h;exact h) (by rw [HZ.o];exact HI12.o) HO.o.old HS.o.old (by simp only [List.length_append,List.length_nil];omega) (by have:=HO.o.olen;omega);rw [HZ.o] at HC;have HC:=lH HC;have x3:=HX12.o.cell (i:=3) (v:=.slice ao e.old.length co) rfl;have xl:=HX12.o.lt;go_wp2_with (fail)
 refine HC.o.mono ?_;rintro r w20 ⟨rfl,h20,hb20,hk20⟩;have HI20:=lH h20;have HQ20:=lH (HQ12.o.trans hb20);have HK20:=lH (HK12.o.trans hk20);have HX20:=lH (hk20.box HX12.o hrb (by decide));have hz20:Z≤w20.heap.size:=Nat.le_trans hz12 hb20.size;clear h20 hb20 hk20 HC HI12 HQ12 HK12 HX12 x3 xl
 have HC:=zNe e.fresh w w20 b ([]++putI e.kind++putT e.pack++putT e.text++encDs e.old) af cf HR.o.fresh (by have h:=HQ20.o;rw [←HZ.o] at h;exact h) (by rw [HZ.o];exact HI20.o) HO.o.fresh HS.o.fresh (by simp only [List.length_append,List.length_nil];omega) (by have:=HO.o.flen;omega);rw [HZ.o] at HC;have HC:=lH HC;have x4:=HX20.o.cell (i:=4) (v:=.slice af e.fresh.length cf) rfl;have xl:=HX20.o.lt;go_wp2_with (fail)
 refine HC.o.mono ?_;rintro r w21 ⟨rfl,h21,hb21,hk21⟩;have HI21:=lH h21;have HQ21:=lH (HQ20.o.trans hb21);have HK21:=lH (HK20.o.trans hk21);have HX21:=lH (hk21.box HX20.o hrb (by decide));have hz21:Z≤w21.heap.size:=Nat.le_trans hz20 hb21.size;clear h21 hb21 hk21 HC HI20 HQ20 HK20 HX20 x4 xl;have hfin:[]++putI e.kind++putT e.pack++putT e.text++encDs e.old++encDs e.fresh=encE e:=by unfold encE;simp only [List.nil_append,List.append_assoc]
 rw [hfin] at HI21
 have hne:encE e≠[]:=by
  unfold encE;intro c;exact yCv HO.o.k0 HO.o.k1 (List.append_eq_nil_iff.1 c).1
 have hbw:=HI21.o.lt;have HC:=lH (zTa Z b (encE e) w21 HI21.o hne);clear hfin hne;go_wp2_with (fail)
 refine HC.o.mono ?_;rintro r w30 ⟨rfl,hb30⟩;have HQ30:=lH (HQ21.o.trans hb30);clear hb30 HC HI21 HQ21 HK21 HX21;go_wp2;go_ret2;exact ⟨by rw [HE.o];rfl,by have h:=HQ30.o;rw [←HZ.o] at h;exact h⟩
end Go.Proofs.YtfkjfdbjhlmjcaaGreatDoor
