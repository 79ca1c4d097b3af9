/- Plain: -/
import Derived.Test.YtfkjfdbjhlmjcaaGreatDoorXShK
set_option maxRecDepth 100000
set_option maxHeartbeats 16000000
namespace Go.Proofs.YtfkjfdbjhlmjcaaGreatDoor
open Go.RowKit
end Go.Proofs.YtfkjfdbjhlmjcaaGreatDoor
namespace Go.Proofs.YtfkjfdbjhlmjcaaGreatDoor
open Go.RowKit Go.Shelf
attribute [local go_sem] Oper.semAt_some
def fName:ByteArray:=⟨#[102]⟩
def gName:ByteArray:=⟨#[103]⟩
theorem yCa (k n:Int) (hk:inI k) (hn:inI n):SmX 40000 (.mk k ⟨#[]⟩ ⟨#[]⟩ n 0 []):=.mk (by decide) (by decide) hk hn ⟨by decide,by decide⟩ (fun y hy=>by cases hy)
theorem zJf (w:World) (B:Nat) (hB:B≤w.heap.size) (t:TypeId) (xs:Array Value) (sz n:Nat) (h:xs.size=n * sz) (hn:n≤1000000):(w.alloc (.cells xs t)).ownsRow B t sz (.slice (some ⟨w.heap.size,0,none⟩) n n) n xs.toList:=
 ⟨by rw [Array.length_toList];exact h,.inr ⟨w.heap.size,n,_,rfl,hB,World.alloc_heap_new _ _,Nat.le_refl _,by unfold maxLen;omega,h,by rw [←h,←Array.length_toList,List.take_length]⟩⟩
def OwnE (w0 w:World) (B:Nat) (v:Value) (l:List OEdit):Prop:=∃xs,w.ownsRow B 39 5 v l.length xs∧ReadsL w0 [] (l.flatMap editT) xs
theorem OwnE.nil (w0 w:World) (B:Nat):OwnE w0 w B (.slice none 0 0) []:=⟨[],World.ownsRow_nil _ _ _ _,ReadsL.nil _ _⟩
theorem OwnE.val {w0 w:World} {B:Nat} {v:Value} {l:List OEdit} (h:OwnE w0 w B v l):∃a c,v=.slice a l.length c:=by
 obtain ⟨xs,h1,_⟩:=h;exact zAk h1
theorem OwnE.snoc {w0 w':World} {B:Nat} {v':Value} {l:List OEdit} {e:OEdit} {xs:List Value} {ao:Option Addr} {co:Nat} {af:Option Addr} {cf:Nat} (hx:ReadsL w0 [] (l.flatMap editT) xs) (he:EditIn w0 e ao co af cf) (h:w'.ownsRow B 39 5 v' (l.length+1) (xs++[.int .i64 e.kind,.string e.pack,.string e.text,.slice ao e.old.length co,.slice af e.fresh.length cf])):OwnE w0 w' B v' (l++[e]):=by
 refine ⟨_,by rw [List.length_append];exact h,?_⟩;rw [List.flatMap_append,List.flatMap_cons,List.flatMap_nil,List.append_nil];exact ReadsL.append (ReadsL.cons (Reads.leaf' _ _ _) (ReadsL.cons (Reads.leaf' _ _ _) (ReadsL.cons (Reads.leaf' _ _ _) (ReadsL.cons he.old (ReadsL.cons he.fresh (ReadsL.nil _ _)))))) hx
theorem zMu {o r:List OEdit} {x:OEdit}:o++x::r=(o++[x])++r:=by rw [List.append_assoc];rfl
theorem yEc {k:Int} {p:ByteArray} {us os:List ByteArray} {i:Nat} {u:ByteArray} (h:us[i]?=some u):useE k p (us.drop i) os=if memS u os then useE k p (us.drop (i+1)) os else ⟨k,p,u,[],[]⟩::useE k p (us.drop (i+1)) os:=by
 unfold useE;obtain ⟨hi,e⟩:=List.getElem?_eq_some_iff.1 h;rw [List.drop_eq_getElem_cons hi,e,List.filter_cons]
 cases memS u os<;>rfl
theorem yEd (w:World) (k:Int) (p u:ByteArray):EditIn w ⟨k,p,u,[],[]⟩ none 0 none 0:=⟨Reads.nilRow _ _ _ _,Reads.nilRow _ _ _ _,Nat.le_refl _,Nat.zero_le _,Nat.le_refl _,Nat.zero_le _⟩
theorem zIx (k:Int) (p:ByteArray) (us os:List ByteArray) (ua oa:Option Addr) (uc oc:Nat) (w:World) (hu:Strs w (.slice ua us.length uc) us) (ho:Strs w (.slice oa os.length oc) os) (hn:us.length≤40000) (hon:os.length≤40000) :
  Calls Tryz.prog 39 #[.int .i64 k,.string p,.slice ua us.length uc,.slice oa os.length oc] w fun r w'=>∃v,r=.returned v∧OwnE w w' w.heap.size v (useE k p us os)∧Bw w w':=by
 obtain ⟨i0,z,hi,hz0,hzs,hz1,hz2⟩:=zBh zHf;obtain ⟨_,_,e,hlc,hcm,hcell⟩:=hu.shape
 cases e
 have HC:=lH hcell;have HO:=lH ho;have HE:Hid (useE k p us os=([]:List OEdit)++useE k p (us.drop 0) os):=rfl;clear hu ho hcell;generalize useE k p us os=T at *
 go_enter Tryz.func39,Tryz.ntmps39
 go_wp2
 go_loopw [14,9] (fun iv ov wr=>∃(i:Nat) (out:List OEdit),i≤us.length∧iv=.int .i64 i∧Hid (T=out++useE k p (us.drop i) os)∧Hid (OwnE w wr w.heap.size ov out∧out.length≤i)∧Bw w wr) (fun iv _ _=>us.length - (intOf iv).toNat)
 case atStart=>exact ⟨0,[],Nat.zero_le _,rfl,HE,⟨OwnE.nil _ _ _,Nat.zero_le _⟩,zAl _⟩
 case round=>
  obtain ⟨i,out,hil,rfl,HI,HW,hb⟩:=hrel;obtain ⟨sa,sc,rfl⟩:=HW.out.1.val
  by_cases hiu:i<us.length
  ·have hd:decide ((i:Int)<(us.length:Int))=true:=decide_eq_true (by omega)
   have hir:(i:Int)<(us.length:Int):=by omega
   obtain ⟨u,hui⟩:∃u,us[i]?=some u:=⟨_,List.getElem?_eq_getElem hiu⟩;obtain ⟨b,o,rfl,hbl,hc⟩:=HC.out i hiu
   have ck:wr.cell? ⟨b,o+i,none⟩=some (.string u):=by
    have:=(hb.cell (p:=⟨b,o+i,none⟩) hbl).trans (hc i hiu);rwa [show us.getD i ByteArray.empty=u from zDw hui] at this
   have hbr:b<wr.heap.size:=Nat.lt_of_lt_of_le hbl hb.size;have HN:=lH (HI.out.trans (congrArg (out++·) (yEc (k:=k) (p:=p) (os:=os) hui)));have HS:=lH (zGs (.slice oa os.length oc) u os wr (HO.out.below hb) hon);clear hc HI hui;generalize memS u os=q at *
   cases q with
   | true=>
    simp only [if_true] at HN
    go_wp2_with (fail)
    refine HS.out.mono ?_;rintro r w1 ⟨rfl,hw1⟩;subst hw1;have HO2:Hid (OwnE w wr w.heap.size (.slice sa out.length sc) out∧out.length≤i+1):=⟨HW.out.1,Nat.le_succ_of_le HW.out.2⟩;clear HS HW;go_wp2;go_roundw
    case rel=>exact ⟨i+1,out,by omega,by go_num,HN,HO2,hb⟩
    case measure=>simp [intOf];omega
   | false=>
    simp only [Bool.false_eq_true,if_false] at HN
    rw [zMu] at HN;go_wp2_with (fail)
    refine HS.out.mono ?_;rintro r w1 ⟨rfl,hw1⟩;subst hw1;obtain ⟨xs,hown,hxs⟩:=HW.out.1;have hln:=HW.out.2;have HXS:=lH hxs;have hsw:=hb.size;have hA3:=zAa wr (.cells #[.int .i64 k,.string p,.string u,.slice none 0 0,.slice none 0 0] 39);have HR3:=lH (zAs (zJf wr wr.heap.size (Nat.le_refl _) 39 #[.int .i64 k,.string p,.string u,.slice none 0 0,.slice none 0 0] 5 1 rfl (by omega)));have HO3:=lH (zAq hown hA3);have HA3:=lH hA3;have HBB:=lH hb;have hsz3:=hA3.size;clear hA3 hown hxs HS HW
    go_wp2_with (at_builtin;refine zAd rfl _ _ 23 rfl w.heap.size 39 i0 _ 5 88 Tryz.underlying23 hi hz0 hz1 hz2 hzs (by decide) _ _ _ rfl HO3.out _ _ _ rfl HR3.out (by intro u hu;simp at hu;rcases hu with rfl|rfl|rfl|rfl|rfl<;>rfl) (by unfold maxLen;omega) (by omega) (by omega) ?_)
    intro v5 w5 hown5 hg5 hbk5;have HB5:=lH (((HBB.out.trans (HA3.out.mono hsw))).grown hg5 (by omega) (fun x hx=>(HO3.out.lt x hx).1));have HO5:Hid (OwnE w w5 w.heap.size v5 (out++[⟨k,p,u,[],[]⟩])∧(out++[(⟨k,p,u,[],[]⟩:OEdit)]).length≤i+1):=⟨OwnE.snoc HXS.out (yEd w k p u) hown5,by rw [List.length_append];simp;omega⟩;clear hown5 hg5 hbk5;go_wp2;go_roundw
    case rel=>exact ⟨i+1,_,by omega,by go_num,HN,HO5,HB5.out⟩
    case measure=>simp [intOf];omega
  ·have hd:decide ((i:Int)<(us.length:Int))=false:=decide_eq_false (by omega)
   have HF:Hid (T=out):=by show _=_;rw [HI.out,List.drop_eq_nil_of_le (show us.length≤i by omega)];exact List.append_nil _
   have hO:=HW.out.1;have HO2:Hid (OwnE w wr w.heap.size (.slice sa out.length sc) T):=by show OwnE _ _ _ _ _;rw [HF.out];exact hO
   clear hO HI HW;go_wp2;go_ret;exact ⟨_,rfl,HO2.out,hb⟩
theorem zZf (n:Nat) (hn:n≤4000000) (w:World) :
  Calls Tryz.prog 91 #[.slice none 0 0,.int .i64 n] w fun e w'=>∃v,e=.returned v∧w'.ownsRow w.heap.size 39 5 v 0 []∧Bw w w':=by
 rcases Nat.eq_zero_or_pos n with rfl|h
 ·refine (Any8.slices_Grow_room Tryz.growE none 0 0 0 w (Nat.le_refl _) (by omega) (by omega) (by omega)).mono ?_
  rintro e w' ⟨rfl,rfl⟩;exact ⟨_,rfl,World.ownsRow_nil _ _ _ _,zAl _⟩
 ·obtain ⟨i,z,hi,hz,hzs,hs,hb⟩:=zBh zHf
  refine (Any8.slices_Grow_grow Tryz.growE i z hi hz (by omega) none 0 0 n [] w (Nat.le_refl _) (by omega) (by rw [hb];omega) (by omega) (by simp) (fun _=>rfl) (fun _ h=>by cases h)).mono ?_;rintro e w' ⟨rfl,rfl⟩;refine ⟨_,rfl,?_,?_⟩
  ·have hge:=grownCap_ge w (0+n) 0 39
   refine World.ownsRow_made (base:=w.heap.size) (size:=5) w.drew _ _ (Nat.le_refl _) (grownCap_le_maxLen w _ _ _ (by unfold maxLen;omega)) ?_;have e1:Tryz.growE_ren.t 25=39:=rfl;rw [e1];simp only [Array.size_append,size_zeroCells,hzs,List.size_toArray,List.length_nil]
   omega
  ·exact ((Mod.refl [] w).drew.alloc _).below
def sumK (R:List (Value×List OEdit)) (k:Nat):Nat:=((R.take k).map fun q=>q.2.length).sum
def allK (R:List (Value×List OEdit)):List OEdit:=R.flatMap fun q=>q.2
theorem yEe {R:List (Value×List OEdit)} {k:Nat} {q:Value×List OEdit} (h:R[k]?=some q):sumK R (k+1)=sumK R k+q.2.length:=by
 unfold sumK;rw [zDy h,List.map_append,List.sum_append];simp
theorem yEf (R:List (Value×List OEdit)) (k:Nat):sumK R k≤sumK R R.length:=by
 unfold sumK;rw [List.take_length]
 conv=>rhs;rw [←List.take_append_drop k R,List.map_append,List.sum_append]
 exact Nat.le_add_right _ _
theorem zU (R:List (Value×List OEdit)):sumK R R.length=(allK R).length:=by
 unfold sumK allK;rw [List.take_length,List.length_flatMap]
theorem yEg {w:World} {R:List (Value×List OEdit)} (h:∀q∈R,Reads w [] (editsT q.2) q.1):∃F:Nat→List Value,∀k q,R[k]?=some q→IsRow w 5 q.1 q.2.length (F k)∧ReadsL w [] (q.2.flatMap editT) (F k):=by
 have:∀k:Nat,∃xs:List Value,∀q:Value×List OEdit,R[k]?=some q→IsRow w 5 q.1 q.2.length xs∧ReadsL w [] (q.2.flatMap editT) xs:=fun k=>by
  cases hk:R[k]? with
  | none=>exact ⟨[],fun q h=>by cases h⟩
  | some q=>
   obtain ⟨xs,h1,-,h2⟩:=Reads.toRow (h q (List.mem_of_getElem? hk));exact ⟨xs,fun q' e=>by cases e;exact ⟨h1,h2⟩⟩
 exact ⟨fun k=>Classical.choose (this k),fun k=>Classical.choose_spec (this k)⟩
theorem zZg {w:World}:∀{R:List (Value×List OEdit)} {F:Nat→List Value},(∀k q,R[k]?=some q→ReadsL w [] (q.2.flatMap editT) (F k))→ReadsL w [] ((allK R).flatMap editT) ((List.range R.length).flatMap F):=by
 intro R F h
 have:∀k,k≤R.length→ReadsL w [] ((allK (R.take k)).flatMap editT) ((List.range k).flatMap F):=fun k=>by
  induction k with
  | zero=>intro _;exact ReadsL.nil _ _
  | succ k ih=>
   intro hk;have hq:R[k]?=some R[k]:=List.getElem?_eq_getElem (by omega);have e1:allK (R.take (k+1))=allK (R.take k)++R[k].2:=by unfold allK;rw [zDy hq,List.flatMap_append];simp
   rw [e1,List.range_succ,List.flatMap_append,List.flatMap_append];refine ReadsL.append ?_ (ih (by omega));have:=h k _ hq
   simpa using this
 have:=this R.length (Nat.le_refl _);rwa [List.take_length] at this
theorem zSp (R:List (Value×List OEdit)) (b M:Nat) (w:World) (hM:R.length=M) (hr:∀q∈R,Reads w [] (editsT q.2) q.1) (hb:b<w.heap.size) (hc:∀k q,R[k]?=some q→w.cell? ⟨b,k,none⟩=some q.1) (hs:sumK R R.length≤1000000) (hm:M≤1000) :
  Calls Tryz.prog 41 #[.slice (some ⟨b,0,none⟩) M M] w fun e w'=>∃a c,e=.returned (.slice a (allK R).length c)∧Reads w' [] (editsT (allK R)) (.slice a (allK R).length c)∧Bw w w':=by
 obtain ⟨i0,z,hi,hz0,hzs,hz1,hz2⟩:=zBh zHf;obtain ⟨N,hN⟩:∃N:Nat,N=sumK R R.length:=⟨_,rfl⟩;have HG:=lH (zZf N (by omega) w);obtain ⟨F,hF⟩:=yEg hr;have HX:Hid (ReadsL w [] ((allK R).flatMap editT) ((List.range M).flatMap F)):=by show ReadsL _ _ _ _;rw [←hM];exact zZg fun k q h=>(hF k q h).2
 obtain ⟨S,XS,hS0,hX0,hS2,hX2,hK⟩:∃(S:Nat→Nat) (XS:Nat→List Value),S 0=0∧XS 0=[]∧S M=N∧XS M=(List.range M).flatMap F ∧
   ∀k,k<M→∃a n c xs,w.cell? ⟨b,k,none⟩=some (.slice a n c)∧S (k+1)=S k+n∧S (k+1)≤2000000∧IsRow w 5 (.slice a n c) n xs∧(∀u∈xs,u.oneCell'=true)∧XS (k+1)=XS k++xs:=by
  refine ⟨sumK R,fun k=>(List.range k).flatMap F,rfl,rfl,by rw [hN,hM],rfl,fun k hk=>?_⟩;have hq:R[k]?=some R[k]:=List.getElem?_eq_getElem (by omega);obtain ⟨h1,h2⟩:=hF k _ hq;obtain ⟨_,a,c,e,_⟩:=h1;have h1:=(hF k _ hq).1;refine ⟨a,R[k].2.length,c,F k,by rw [←e];exact hc k _ hq,yEe hq,by have:=yEf R (k+1);omega,by rw [←e];exact h1,zHj h2,by show (List.range (k+1)).flatMap F=_;rw [List.range_succ,List.flatMap_append];simp⟩
 have HK:=lH hK;have HS0:=lH hS0;have HX0:=lH hX0;have HS2:=lH hS2;have HX2':=lH hX2;have HN:Hid (N=(allK R).length):=by show _=_;rw [hN];exact zU R
 clear hN hr hF hS0 hX0 hS2 hX2 hK hc hs hM
 go_enter Tryz.func41,Tryz.ntmps41
 go_wp2
 go_loop [3,11] (fun sv iv=>∃k:Nat,k≤M∧iv=.int .i64 k∧sv=.int .i64 (S k:Int)) (fun _ iv=>M - (intOf iv).toNat)
 case atStart=>exact ⟨0,by omega,rfl,by rw [HS0.out];rfl⟩
 case round=>
  obtain ⟨k,hk,rfl,rfl⟩:=hrel
  by_cases hk2:k<M
  ·have hd:decide ((k:Int)<(M:Int))=true:=decide_eq_true (by omega)
   have hir:(k:Int)<(M:Int):=by omega
   obtain ⟨a,n,c,xs,hcell,hs1,hs2,-⟩:=HK.out k hk2;have HS1:=lH hs1;have q:wrap64 ((S k:Int)+(n:Int))=(S (k+1):Int):=by rw [hs1];unfold wrap64;omega
   have HQ:=lH q;clear hs1;have q3:¬((S (k+1):Int)<0):=by omega
   go_wp2
   go_round
   case rel=>exact ⟨k+1,by omega,by go_num,by rw [HQ.out]⟩
   case measure=>simp [intOf];omega
  ·have hd:decide ((k:Int)<(M:Int))=false:=decide_eq_false (by omega)
   obtain rfl:M=k:=by omega
   have HG2:Hid (Calls Tryz.prog 91 #[.slice none 0 0,.int .i64 (S M:Int)] w fun e w'=>∃v,e=.returned v∧w'.ownsRow w.heap.size 39 5 v 0 []∧Bw w w'):=by show Calls _ _ _ _ _;rw [HS2.out];exact HG.out
   clear HG hk hk2;go_wp2_with (fail)
   refine HG2.out.mono ?_;rintro e w1 ⟨v,rfl,hown,hb1⟩;have HOW:=lH hown;clear hown HG2 hd;go_wp2
   go_loopw [6,27] (fun sv iv wr=>∃k:Nat,k≤M∧iv=.int .i64 k∧Hid (wr.ownsRow w.heap.size 39 5 sv (S k) (XS k))∧Bw w wr) (fun _ iv _=>M - (intOf iv).toNat)
   case atStart=>exact ⟨0,by omega,rfl,by rw [HS0.out,HX0.out];exact HOW,hb1⟩
   case round=>
    obtain ⟨k,hk,rfl,HO,hb'⟩:=hrel;clear HOW
    by_cases hk2:k<M
    ·have hd:decide ((k:Int)<(M:Int))=true:=decide_eq_true (by omega)
     have hir:(k:Int)<(M:Int):=by omega
     obtain ⟨a,n,c,xs,hcell,hs1,hs2,hrow,hone,hxs⟩:=HK.out k hk2;have hc':=(hb'.cell (p:=⟨b,_,none⟩) hb).trans hcell;have hbr:b<wr.heap.size:=Nat.lt_of_lt_of_le hb hb'.size;have hsz:=hb'.size;have HS1:=lH hs1;have HXK:=lH hxs;have hle:S k+n≤2000000:=by omega
     have hrow':=hrow.below hb';have hown:=HO.out;clear hs1 hxs hs2 hcell hrow;go_wp2_with (at_builtin;refine zAd rfl _ _ 23 rfl w.heap.size 39 i0 _ 5 88 Tryz.underlying23 hi hz0 hz1 hz2 hzs (by decide) _ _ _ rfl hown _ _ _ rfl hrow' hone (by unfold maxLen;omega) (by omega) (by omega) ?_)
     intro v3 w3 hown3 hg3 hb3;have hB3:Bw w w3:=hb'.grown hg3 hsz (fun j hj=>(HO.out.lt j hj).1);rw [←HS1.out,←HXK.out] at hown3;have HO3:=lH hown3;clear hown3 hown;go_wp2;go_roundw
     case rel=>exact ⟨k+1,by omega,by go_num,HO3,hB3⟩
     case measure=>simp [intOf];omega
    ·have hd:decide ((k:Int)<(M:Int))=false:=decide_eq_false (by omega)
     obtain rfl:M=k:=by omega
     have HOF:=HO.out;rw [HS2.out,HX2'.out,HN.out] at HOF;obtain ⟨av,cv,rfl⟩:=zAk HOF;have HF:=lH (Reads.ofRow (f:=editT) (l:=allK R) (X:=[]) (zAs HOF) (fun _ b _=>by simp) (HX.out.below hb'));clear HO HOF;go_wp2;go_ret;exact ⟨av,cv,rfl,HF.out,hb'⟩
def lenV:Value→Nat
 | .slice _ n _=>n
 | _=>0
theorem yCb:(Tryz.prog.info? 71).map (fun i=>(i.zero.map (fun z=>z.cells.size),i.size,i.bytes))=some (some 9,9,152):=by kernel_rfl
theorem yEh {a:OMod} {xs:List OMod} {out:List Pair}:out++pairsL (a::xs) []=(out++[⟨a.label,some a,none⟩])++pairsL xs []:=by rw [pairsL,List.append_assoc];rfl
theorem yEi {b:OMod} {bs:List OMod} {out:List Pair}:out++pairsL [] (b::bs)=(out++[⟨b.label,none,some b⟩])++pairsL [] bs:=by rw [pairsL,List.append_assoc];rfl
theorem yCc {a b:OMod} {xs bs:List OMod} {out:List Pair} (h1:¬ltB a.label b.label=true) (h:¬ltB b.label a.label=true):out++pairsL (a::xs) (b::bs)=(out++[⟨b.label,some a,some b⟩])++pairsL xs bs:=by rw [pairsL,if_neg h1,if_neg h,List.append_assoc];rfl
theorem yCd {a b:ByteArray} (h1:¬ltB a b=true) (h2:¬ltB b a=true):(Op.bytesLess a.toList b.toList || a.toList==b.toList)=true∧(Op.bytesLess b.toList a.toList || b.toList==a.toList)=true:=by
 have:=zSo h1 h2;subst this;simp
theorem zZh (xs bs:List OMod) (aa ab:Option Addr) (ca cb:Nat) (w:World) (ha:Reads w [] (modsT xs) (.slice aa xs.length ca)) (hb:Reads w [] (modsT bs) (.slice ab bs.length cb)) (hsl:xs.map OMod.label=bs.map OMod.label) (hna:xs.length≤40000) (hnb:bs.length≤40000) :
  Calls Tryz.prog 38 #[.slice aa xs.length ca,.slice ab bs.length cb] w fun r w'=>∃v,r=.returned v∧OwnP w w' w.heap.size v (pairsL xs bs)∧Bw w w':=by
 obtain ⟨i0,z,hi0,hz0,hzs,hz1,hz2⟩:=zBh yCb;obtain ⟨K,hK⟩:∃K,K=xs.length+bs.length:=⟨_,rfl⟩;have hKl:K≤80000:=by omega
 obtain ⟨n,hn⟩:∃n,xs.length=n:=⟨_,rfl⟩;obtain ⟨m,hm⟩:∃m,bs.length=m:=⟨_,rfl⟩;rw [hn] at ha hK ⊢;rw [hm] at hb hK ⊢;have HSL0:=lH hsl;have HRX0:=lH ha;have HRB0:=lH hb;have HNX0:=lH hn;have HNB0:=lH hm;have HE:Hid (pairsL xs bs=([]:List Pair)++pairsL xs bs):=rfl;have HK:Hid (n+m+([]:List Pair).length≤K):=by show _≤_;simp;omega
 clear ha hb hn hm hna hnb hK hsl;generalize hT:pairsL xs bs=T at HE ⊢;rw [←hT] at HE;have HE2:Hid (T=([]:List Pair)++pairsL xs bs):=by show _=_;rw [←hT];rfl
 clear hT HE
 go_enter Tryz.func38,Tryz.ntmps38
 go_wp2
 go_loopw [0,1,5] (fun av bv ov wr=>∃(xs bs:List OMod) (out:List Pair) (aa:Option Addr) (n ca:Nat) (ab:Option Addr) (m cb:Nat),av=.slice aa n ca∧bv=.slice ab m cb∧Hid (T=out++pairsL xs bs)∧Hid (OwnP w wr w.heap.size ov out∧n+m+out.length≤K)∧Hid (Reads w [] (modsT xs) (.slice aa n ca))∧Hid (xs.length=n)∧Hid (Reads w [] (modsT bs) (.slice ab m cb))∧Hid (bs.length=m)∧Hid (xs.map OMod.label=bs.map OMod.label)∧Bw w wr) (fun av bv _ _=>lenV av+lenV bv)
 case atStart=>exact ⟨xs,bs,[],aa,n,ca,ab,m,cb,rfl,rfl,HE2,⟨OwnP.nil _ _ _,HK.out⟩,HRX0,HNX0,HRB0,HNB0,HSL0,zAl _⟩
 case round=>
  clear HE2 HK HRX0 HNX0 HRB0 HNB0;obtain ⟨xs,bs,out,aa,n,ca,ab,m,cb,rfl,rfl,HI,HW,HRX,HNX,HRB,HNB,HSL,hb⟩:=hrel;have HB:=lH hb;have hnm:=HW.out.2;clear hb;obtain ⟨oa0,oc0,rfl⟩:∃x y,_=Value.slice x out.length y:=(let ⟨q,h,_⟩:=HW.out.1;zAk h)
  cases xs with
  | nil=>
   obtain rfl:n=0:=by have:=HNX.out;simpa using this.symm
   cases bs with
   | nil=>
    obtain rfl:m=0:=by have:=HNB.out;simpa using this.symm
    have HF:Hid (T=out):=by show _=_;rw [HI.out,pairsL];exact List.append_nil _
    have HO2:Hid (OwnP w wr w.heap.size (.slice oa0 out.length oc0) T):=by show OwnP _ _ _ _ _;rw [HF.out];exact HW.out.1
    clear HW HI;go_wp2;go_ret;exact ⟨_,rfl,HO2.out,HB.out⟩
   | cons b bt=>
    have hbn:=HNB.out;have hb0:0<m:=by rw [←hbn];simp
    have hdb:decide ((0:Int)<(m:Int))=true:=decide_eq_true (by omega);have hzb:((m:Int)==0)=false:=by simp;omega
    have hib:(0:Int)<(m:Int):=by omega
    have hjb:(1:Int)≤(m:Int):=by omega
    obtain ⟨bb,ob,uab,ucb,dab,dcb,eab,hlb,x0b,x1b,x2b,-,-,hrub,-,-,hrdb⟩:=zBz (l:=b::bt) (a:=ab) (cap:=cb) (by have:=HRB.out;rwa [←hbn] at this) (i:=0) rfl;subst eab
    have hcb:m≤cb:=by have:=HRB.out;rw [←hbn] at this;obtain ⟨_,_,e,k,_⟩:=zJc this;injection e with e1 e2 e3;omega
    have hkb:(1:Int)≤(cb:Int):=by omega
    have HLB:=lH hlb;have HBB0:Hid (w.cell? ⟨bb,ob,none⟩=some (.string b.label)):=by show _=_;simpa using x0b
    have HBB1:Hid (w.cell? ⟨bb,ob+1,none⟩=some (.slice uab b.uses.length ucb)):=by show _=_;simpa using x1b
    have HBB2:Hid (w.cell? ⟨bb,ob+2,none⟩=some (.slice dab b.decls.length dcb)):=by show _=_;simpa using x2b
    have HUb:=hrub;have HDDb:=hrdb;have HBN2:Hid (bt.length=m - 1):=by show _=_;rw [←hbn];simp
    clear x0b x1b x2b hrub hrdb hlb hbn;have HN:=lH (HI.out.trans yEi);clear HI
    cases HSL.out
  | cons a xt=>
   have han:=HNX.out;have ha0:0<n:=by rw [←han];simp
   have hda:decide ((0:Int)<(n:Int))=true:=decide_eq_true (by omega);have hza:((n:Int)==0)=false:=by simp;omega
   have hia:(0:Int)<(n:Int):=by omega
   have hja:(1:Int)≤(n:Int):=by omega
   obtain ⟨ba,oa,uaa,uca,daa,dca,eaa,hla,x0a,x1a,x2a,-,-,hrua,-,-,hrda⟩:=zBz (l:=a::xt) (a:=aa) (cap:=ca) (by have:=HRX.out;rwa [←han] at this) (i:=0) rfl;subst eaa
   have hca:n≤ca:=by have:=HRX.out;rw [←han] at this;obtain ⟨_,_,e,k,_⟩:=zJc this;injection e with e1 e2 e3;omega
   have hka:(1:Int)≤(ca:Int):=by omega
   have HLA:=lH hla;have HA0:Hid (w.cell? ⟨ba,oa,none⟩=some (.string a.label)):=by show _=_;simpa using x0a
   have HA1:Hid (w.cell? ⟨ba,oa+1,none⟩=some (.slice uaa a.uses.length uca)):=by show _=_;simpa using x1a
   have HA2:Hid (w.cell? ⟨ba,oa+2,none⟩=some (.slice daa a.decls.length dca)):=by show _=_;simpa using x2a
   have HUa:=hrua;have HDDa:=hrda;have HXN:Hid (xt.length=n - 1):=by show _=_;rw [←han];simp
   clear x0a x1a x2a hrua hrda hla han
   cases bs with
   | nil=>
    obtain rfl:m=0:=by have:=HNB.out;simpa using this.symm
    have HN:=lH (HI.out.trans yEh);clear HI
    cases HSL.out
   | cons b bt=>
    have hbn:=HNB.out;have hb0:0<m:=by rw [←hbn];simp
    have hdb:decide ((0:Int)<(m:Int))=true:=decide_eq_true (by omega);have hzb:((m:Int)==0)=false:=by simp;omega
    have hib:(0:Int)<(m:Int):=by omega
    have hjb:(1:Int)≤(m:Int):=by omega
    obtain ⟨bb,ob,uab,ucb,dab,dcb,eab,hlb,x0b,x1b,x2b,-,-,hrub,-,-,hrdb⟩:=zBz (l:=b::bt) (a:=ab) (cap:=cb) (by have:=HRB.out;rwa [←hbn] at this) (i:=0) rfl;subst eab
    have hcb:m≤cb:=by have:=HRB.out;rw [←hbn] at this;obtain ⟨_,_,e,k,_⟩:=zJc this;injection e with e1 e2 e3;omega
    have hkb:(1:Int)≤(cb:Int):=by omega
    have HLB:=lH hlb;have HBB0:Hid (w.cell? ⟨bb,ob,none⟩=some (.string b.label)):=by show _=_;simpa using x0b
    have HBB1:Hid (w.cell? ⟨bb,ob+1,none⟩=some (.slice uab b.uses.length ucb)):=by show _=_;simpa using x1b
    have HBB2:Hid (w.cell? ⟨bb,ob+2,none⟩=some (.slice dab b.decls.length dcb)):=by show _=_;simpa using x2b
    have HUb:=hrub;have HDDb:=hrdb;have HBN2:Hid (bt.length=m - 1):=by show _=_;rw [←hbn];simp
    clear x0b x1b x2b hrub hrdb hlb hbn
    by_cases hlt:ltB a.label b.label=true
    ·exfalso
     have:=HSL.out;simp only [List.map_cons,List.cons.injEq] at this
     rw [this.1,zOa.irr] at hlt
     cases hlt
    by_cases hgt:ltB b.label a.label=true
    ·exfalso
     have:=HSL.out;simp only [List.map_cons,List.cons.injEq] at this
     rw [this.1,zOa.irr] at hgt
     cases hgt
    ·obtain ⟨q1,q2⟩:=yCd hlt hgt
     have HN:=lH (HI.out.trans (yCc hlt hgt));clear HI hlt hgt;go_upto_region 4 with (fail)
     have hbx0:=CBox.new wr 71 #[.string ⟨#[]⟩,.bool false,.bool false,.string ⟨#[]⟩,.slice none 0 0,.slice none 0 0,.string ⟨#[]⟩,.slice none 0 0,.slice none 0 0];have HBW0:=lH (zAa wr (.cells #[.string ⟨#[]⟩,.bool false,.bool false,.string ⟨#[]⟩,.slice none 0 0,.slice none 0 0,.string ⟨#[]⟩,.slice none 0 0,.slice none 0 0] 71));generalize World.alloc wr _=W0 at *;obtain ⟨D,hD⟩:∃D,wr.heap.size=D:=⟨_,rfl⟩;rw [hD] at hbx0 ⊢;have HBX0:=lH hbx0;have HD:Hid (wr.heap.size≤D):=by show _≤_;omega
     clear hbx0 hD
     have SW1:Hid (∀W:World,Bw W0 W→(D<W.heap.size∧ba<W.heap.size∧W.cell? ⟨ba,oa,none⟩=some (.string a.label)∧W.cell? ⟨ba,oa+1,none⟩=some (.slice uaa a.uses.length uca)∧W.cell? ⟨ba,oa+2,none⟩=some (.slice daa a.decls.length dca)∧bb<W.heap.size∧W.cell? ⟨bb,ob,none⟩=some (.string b.label)∧W.cell? ⟨bb,ob+1,none⟩=some (.slice uab b.uses.length ucb)∧W.cell? ⟨bb,ob+2,none⟩=some (.slice dab b.decls.length dcb))):=lH (fun W hW=>⟨(HBX0.out.below hW).lt,Nat.lt_of_lt_of_le HLA.out (zA HB.out (zA HBW0.out hW)).size,((zA HB.out (zA HBW0.out hW)).cell (p:=⟨ba,_,none⟩) HLA.out).trans HA0.out,((zA HB.out (zA HBW0.out hW)).cell (p:=⟨ba,_,none⟩) HLA.out).trans HA1.out,((zA HB.out (zA HBW0.out hW)).cell (p:=⟨ba,_,none⟩) HLA.out).trans HA2.out,Nat.lt_of_lt_of_le HLB.out (zA HB.out (zA HBW0.out hW)).size,((zA HB.out (zA HBW0.out hW)).cell (p:=⟨bb,_,none⟩) HLB.out).trans HBB0.out,((zA HB.out (zA HBW0.out hW)).cell (p:=⟨bb,_,none⟩) HLB.out).trans HBB1.out,((zA HB.out (zA HBW0.out hW)).cell (p:=⟨bb,_,none⟩) HLB.out).trans HBB2.out⟩)
     have hdr1:Bw W0 W0.drew:=(Mod.refl [] W0).drew.below
     refine wp_region_noPanic (zEp (fun W:World=>D<W.heap.size∧ba<W.heap.size∧W.cell? ⟨ba,oa,none⟩=some (.string a.label)∧W.cell? ⟨ba,oa+1,none⟩=some (.slice uaa a.uses.length uca)∧W.cell? ⟨ba,oa+2,none⟩=some (.slice daa a.decls.length dca)∧bb<W.heap.size∧W.cell? ⟨bb,ob,none⟩=some (.string b.label)∧W.cell? ⟨bb,ob+1,none⟩=some (.slice uab b.uses.length ucb)∧W.cell? ⟨bb,ob+2,none⟩=some (.slice dab b.decls.length dcb)) [true,true,true,true,true,true,true,true,true,true,true,true,true,true,true,true,true,true,true] zBm (by kernel_rfl) (fun _ _ _ _ _ h=>h) (SW1.out _ hdr1) (fun hHeld=>?_))
     iterate 19 (first|(refine zGz (by rfl) ?_;(try simp only [Act.put,List.setIfInBounds_toArray,List.set_cons_zero,List.set_cons_succ]))|(refine zGy (v:=?_) (by rfl) ?_ ?_;rotate_left;(focus (intro wq hSw;(try dsimp only at hSw);go_simp;(try with_reducible rfl)));(try simp only [Act.put,List.setIfInBounds_toArray,List.set_cons_zero,List.set_cons_succ])))
     refine zJe ?_;clear hHeld;have hbx1:=HBX0.out.below hdr1;generalize W0.drew=wd1 at *;have z0:=hbx1.cell (i:=0) (v:=.string ⟨#[]⟩) rfl;have zf0:=hbx1.frozen 0;have z1:=hbx1.cell (i:=1) (v:=.bool false) rfl;have zf1:=hbx1.frozen 1;have z2:=hbx1.cell (i:=2) (v:=.bool false) rfl;have zf2:=hbx1.frozen 2;have z3:=hbx1.cell (i:=3) (v:=.string ⟨#[]⟩) rfl;have zf3:=hbx1.frozen 3;have z4:=hbx1.cell (i:=4) (v:=.slice none 0 0) rfl;have zf4:=hbx1.frozen 4;have z5:=hbx1.cell (i:=5) (v:=.slice none 0 0) rfl
     have zf5:=hbx1.frozen 5;have z6:=hbx1.cell (i:=6) (v:=.string ⟨#[]⟩) rfl;have zf6:=hbx1.frozen 6;have z7:=hbx1.cell (i:=7) (v:=.slice none 0 0) rfl;have zf7:=hbx1.frozen 7;have z8:=hbx1.cell (i:=8) (v:=.slice none 0 0) rfl;have zf8:=hbx1.frozen 8;have zl:=hbx1.lt;have hbx1':CBox (wd1.setCell ⟨D,1,none⟩ (.bool true)) D 71 #[.string ⟨#[]⟩,.bool true,.bool false,.string ⟨#[]⟩,.slice none 0 0,.slice none 0 0,.string ⟨#[]⟩,.slice none 0 0,.slice none 0 0]:=(hbx1.set 1 (.bool true))
     have HM1:Hid (Mod [D] wd1 (wd1.setCell ⟨D,1,none⟩ (.bool true))):=((Mod.refl [D] wd1).setCell (p:=⟨D,1,none⟩) (by simp) (.bool true));have HBX1:=lH hbx1';have HDR1:=lH (zA HBW0.out hdr1);clear hbx1 hbx1' hdr1 SW1;go_wp2;generalize World.setCell _ ⟨D,1,none⟩ _=W1 at *;clear z0 zf0 z1 zf1 z2 zf2 z3 zf3 z4 zf4 z5 zf5 z6 zf6 z7 zf7 z8 zf8 zl;have HBW1:Hid (Bw wr W1):=HDR1.out.trans (HM1.out.upto HDR1.out.size (by intro q hq;simp at hq;have:=HD.out;omega));clear HM1 HDR1;refine NoPanic.normal ?_;go_upto_region 5 with (fail)
     have SW2:Hid (∀W:World,Bw W1 W→(D<W.heap.size∧ba<W.heap.size∧W.cell? ⟨ba,oa,none⟩=some (.string a.label)∧W.cell? ⟨ba,oa+1,none⟩=some (.slice uaa a.uses.length uca)∧W.cell? ⟨ba,oa+2,none⟩=some (.slice daa a.decls.length dca)∧bb<W.heap.size∧W.cell? ⟨bb,ob,none⟩=some (.string b.label)∧W.cell? ⟨bb,ob+1,none⟩=some (.slice uab b.uses.length ucb)∧W.cell? ⟨bb,ob+2,none⟩=some (.slice dab b.decls.length dcb))):=lH (fun W hW=>⟨(HBX1.out.below hW).lt,Nat.lt_of_lt_of_le HLA.out (zA HB.out (zA HBW1.out hW)).size,((zA HB.out (zA HBW1.out hW)).cell (p:=⟨ba,_,none⟩) HLA.out).trans HA0.out,((zA HB.out (zA HBW1.out hW)).cell (p:=⟨ba,_,none⟩) HLA.out).trans HA1.out,((zA HB.out (zA HBW1.out hW)).cell (p:=⟨ba,_,none⟩) HLA.out).trans HA2.out,Nat.lt_of_lt_of_le HLB.out (zA HB.out (zA HBW1.out hW)).size,((zA HB.out (zA HBW1.out hW)).cell (p:=⟨bb,_,none⟩) HLB.out).trans HBB0.out,((zA HB.out (zA HBW1.out hW)).cell (p:=⟨bb,_,none⟩) HLB.out).trans HBB1.out,((zA HB.out (zA HBW1.out hW)).cell (p:=⟨bb,_,none⟩) HLB.out).trans HBB2.out⟩)
     have hdr2:Bw W1 W1.drew:=(Mod.refl [] W1).drew.below
     refine wp_region_noPanic (zEp (fun W:World=>D<W.heap.size∧ba<W.heap.size∧W.cell? ⟨ba,oa,none⟩=some (.string a.label)∧W.cell? ⟨ba,oa+1,none⟩=some (.slice uaa a.uses.length uca)∧W.cell? ⟨ba,oa+2,none⟩=some (.slice daa a.decls.length dca)∧bb<W.heap.size∧W.cell? ⟨bb,ob,none⟩=some (.string b.label)∧W.cell? ⟨bb,ob+1,none⟩=some (.slice uab b.uses.length ucb)∧W.cell? ⟨bb,ob+2,none⟩=some (.slice dab b.decls.length dcb)) [true,true,true,true,true,true,true,true,true,true,true,true,true,true,true,true,true,true,true] zBm (by kernel_rfl) (fun _ _ _ _ _ h=>h) (SW2.out _ hdr2) (fun hHeld=>?_))
     iterate 19 (first|(refine zGz (by rfl) ?_;(try simp only [Act.put,List.setIfInBounds_toArray,List.set_cons_zero,List.set_cons_succ]))|(refine zGy (v:=?_) (by rfl) ?_ ?_;rotate_left;(focus (intro wq hSw;(try dsimp only at hSw);go_simp;(try with_reducible rfl)));(try simp only [Act.put,List.setIfInBounds_toArray,List.set_cons_zero,List.set_cons_succ])))
     refine zJe ?_;clear hHeld;have hbx2:=HBX1.out.below hdr2;generalize W1.drew=wd2 at *;have z0:=hbx2.cell (i:=0) (v:=.string ⟨#[]⟩) rfl;have zf0:=hbx2.frozen 0;have z1:=hbx2.cell (i:=1) (v:=.bool true) rfl;have zf1:=hbx2.frozen 1;have z2:=hbx2.cell (i:=2) (v:=.bool false) rfl;have zf2:=hbx2.frozen 2;have z3:=hbx2.cell (i:=3) (v:=.string ⟨#[]⟩) rfl;have zf3:=hbx2.frozen 3;have z4:=hbx2.cell (i:=4) (v:=.slice none 0 0) rfl;have zf4:=hbx2.frozen 4;have z5:=hbx2.cell (i:=5) (v:=.slice none 0 0) rfl
     have zf5:=hbx2.frozen 5;have z6:=hbx2.cell (i:=6) (v:=.string ⟨#[]⟩) rfl;have zf6:=hbx2.frozen 6;have z7:=hbx2.cell (i:=7) (v:=.slice none 0 0) rfl;have zf7:=hbx2.frozen 7;have z8:=hbx2.cell (i:=8) (v:=.slice none 0 0) rfl;have zf8:=hbx2.frozen 8;have zl:=hbx2.lt;have hbx2':CBox (wd2.setCell ⟨D,2,none⟩ (.bool true)) D 71 #[.string ⟨#[]⟩,.bool true,.bool true,.string ⟨#[]⟩,.slice none 0 0,.slice none 0 0,.string ⟨#[]⟩,.slice none 0 0,.slice none 0 0]:=(hbx2.set 2 (.bool true))
     have HM2:Hid (Mod [D] wd2 (wd2.setCell ⟨D,2,none⟩ (.bool true))):=((Mod.refl [D] wd2).setCell (p:=⟨D,2,none⟩) (by simp) (.bool true));have HBX2:=lH hbx2';have HDR2:=lH (zA HBW1.out hdr2);clear hbx2 hbx2' hdr2 SW2;go_wp2;generalize World.setCell _ ⟨D,2,none⟩ _=W2 at *;clear z0 zf0 z1 zf1 z2 zf2 z3 zf3 z4 zf4 z5 zf5 z6 zf6 z7 zf7 z8 zf8 zl;have HBW2:Hid (Bw wr W2):=HDR2.out.trans (HM2.out.upto HDR2.out.size (by intro q hq;simp at hq;have:=HD.out;omega));clear HM2 HDR2;refine NoPanic.normal ?_
     have y1:=HBX2.out.cell (i:=1) (v:=.bool true) rfl;have y2:=HBX2.out.cell (i:=2) (v:=.bool true) rfl;have yl:=HBX2.out.lt;go_upto_region 7 with (fail)
     have SW3:Hid (∀W:World,Bw wr W→(ba<W.heap.size∧W.cell? ⟨ba,oa,none⟩=some (.string a.label)∧W.cell? ⟨ba,oa+1,none⟩=some (.slice uaa a.uses.length uca)∧W.cell? ⟨ba,oa+2,none⟩=some (.slice daa a.decls.length dca)∧bb<W.heap.size∧W.cell? ⟨bb,ob,none⟩=some (.string b.label)∧W.cell? ⟨bb,ob+1,none⟩=some (.slice uab b.uses.length ucb)∧W.cell? ⟨bb,ob+2,none⟩=some (.slice dab b.decls.length dcb))):=lH (fun W hW=>⟨Nat.lt_of_lt_of_le HLA.out (zA HB.out hW).size,((zA HB.out hW).cell (p:=⟨ba,_,none⟩) HLA.out).trans HA0.out,((zA HB.out hW).cell (p:=⟨ba,_,none⟩) HLA.out).trans HA1.out,((zA HB.out hW).cell (p:=⟨ba,_,none⟩) HLA.out).trans HA2.out,Nat.lt_of_lt_of_le HLB.out (zA HB.out hW).size,((zA HB.out hW).cell (p:=⟨bb,_,none⟩) HLB.out).trans HBB0.out,((zA HB.out hW).cell (p:=⟨bb,_,none⟩) HLB.out).trans HBB1.out,((zA HB.out hW).cell (p:=⟨bb,_,none⟩) HLB.out).trans HBB2.out⟩)
     have hdr3:Bw W2 W2.drew:=(Mod.refl [] W2).drew.below;have HBa3:=lH (zA HBW2.out hdr3);have HCa3:=lH (HBX2.out.below hdr3);clear hdr3 y1 y2 yl
     refine wp_region_noPanic (zBe (fun W:World=>ba<W.heap.size∧W.cell? ⟨ba,oa,none⟩=some (.string a.label)∧W.cell? ⟨ba,oa+1,none⟩=some (.slice uaa a.uses.length uca)∧W.cell? ⟨ba,oa+2,none⟩=some (.slice daa a.decls.length dca)∧bb<W.heap.size∧W.cell? ⟨bb,ob,none⟩=some (.string b.label)∧W.cell? ⟨bb,ob+1,none⟩=some (.slice uab b.uses.length ucb)∧W.cell? ⟨bb,ob+2,none⟩=some (.slice dab b.decls.length dcb)) 13 [(true,0),(true,1),(true,2),(true,3),(true,4),(true,5),(true,6),(true,7),(true,8),(true,9),(false,10),(true,11),(false,12)] zBm (by kernel_rfl) (fun _ _ _ _ _ h=>h) (SW3.out _ HBa3.out) ?_)
     iterate 10 (refine zAy (v:=?_) rfl (by rfl) ?_ ?_;rotate_left;(focus (intro wq hSw;(try dsimp only at hSw);go_simp;(try rw [if_neg (by first|omega|(simp;omega))]);(try with_reducible rfl)));(try simp only [gA,gB,gC,Act.put,gD,gE,gF]))
     generalize haj3:(if ca=1 then some (⟨ba,oa,none⟩:Addr) else some ⟨ba,oa+3,none⟩)=aj at *;have HAJ3:=lH haj3;clear haj3;generalize W2.drew=wd3 at *;have k0:=HCa3.out.cell (i:=0) (v:=.string ⟨#[]⟩) rfl;have kf0:=HCa3.out.frozen 0;have kl:=HCa3.out.lt;obtain ⟨we3,hwe3⟩:∃v1,v1=wd3.setCell ⟨D,0,none⟩ (.string a.label):=⟨_,rfl⟩
     have HBb3:Hid (Bw wr we3):=by show RowKit.Below _ _ _;rw [hwe3];exact HBa3.out.trans (((Mod.refl [D] wd3).setCell (p:=⟨D,0,none⟩) (by simp) _).upto HBa3.out.size (by intro q hq;simp at hq;have:=HD.out;omega))
     have HCb3:=lH (HCa3.out.set 0 (.string a.label));rw [←hwe3] at HCb3
     (refine zBo rfl (by rfl) (fun K hK=>?_);go_simp)
     rw [←hwe3];clear hwe3 k0 kf0 kl;refine hK.out _ _ (SW3.out _ HBb3.out) ?_;clear hK K;(try simp only [gA,gB,gC,Act.put,gD,gE,gF])
     iterate 1 (refine zAy (v:=?_) rfl (by rfl) ?_ ?_;rotate_left;(focus (intro wq hSw;(try dsimp only at hSw);go_simp;(try rw [if_neg (by first|omega|(simp;omega))]);(try with_reducible rfl)));(try simp only [gA,gB,gC,Act.put,gD,gE,gF]))
     have k0:=HCb3.out.cell (i:=3) (v:=.string ⟨#[]⟩) rfl;have kf0:=HCb3.out.frozen 3;have k1:=HCb3.out.cell (i:=4) (v:=.slice none 0 0) rfl;have kf1:=HCb3.out.frozen 4;have k2:=HCb3.out.cell (i:=5) (v:=.slice none 0 0) rfl;have kf2:=HCb3.out.frozen 5;have kl:=HCb3.out.lt;obtain ⟨W3,hW3⟩:∃v1,v1=(((we3.setCell ⟨D,3,none⟩ (.string a.label)).setCell ⟨D,4,none⟩ (.slice uaa a.uses.length uca)).setCell ⟨D,5,none⟩ (.slice daa a.decls.length dca)):=⟨_,rfl⟩
     have HBW3:Hid (Bw wr W3):=by show RowKit.Below _ _ _;rw [hW3];exact HBb3.out.trans (((((Mod.refl [D] we3).setCell (p:=⟨D,3,none⟩) (by simp) _).setCell (p:=⟨D,4,none⟩) (by simp) _).setCell (p:=⟨D,5,none⟩) (by simp) _).upto HBb3.out.size (by intro q hq;simp at hq;have:=HD.out;omega))
     have HBX3:Hid (CBox W3 D 71 #[.string a.label,.bool true,.bool true,.string a.label,.slice uaa a.uses.length uca,.slice daa a.decls.length dca,.string ⟨#[]⟩,.slice none 0 0,.slice none 0 0]):=by show CBox _ _ _ _;rw [hW3];exact (((HCb3.out.set 3 (.string a.label)).set 4 (.slice uaa a.uses.length uca)).set 5 (.slice daa a.decls.length dca))
     (refine zBo rfl (by rfl) (fun K hK=>?_);go_simp)
     rw [←hW3];clear hW3 k0 kf0 k1 kf1 k2 kf2 kl;refine hK.out _ _ (SW3.out _ HBW3.out) ?_;clear hK K;(try simp only [gA,gB,gC,Act.put,gD,gE,gF]);refine zBy ?_;clear HBa3 HCa3 HBb3 HCb3 SW3;go_wp2;refine NoPanic.normal ?_;have y1:=HBX3.out.cell (i:=1) (v:=.bool true) rfl;have y2:=HBX3.out.cell (i:=2) (v:=.bool true) rfl;have yl:=HBX3.out.lt;go_upto_region 9 with (fail)
     have SW4:Hid (∀W:World,Bw wr W→(ba<W.heap.size∧W.cell? ⟨ba,oa,none⟩=some (.string a.label)∧W.cell? ⟨ba,oa+1,none⟩=some (.slice uaa a.uses.length uca)∧W.cell? ⟨ba,oa+2,none⟩=some (.slice daa a.decls.length dca)∧bb<W.heap.size∧W.cell? ⟨bb,ob,none⟩=some (.string b.label)∧W.cell? ⟨bb,ob+1,none⟩=some (.slice uab b.uses.length ucb)∧W.cell? ⟨bb,ob+2,none⟩=some (.slice dab b.decls.length dcb))):=lH (fun W hW=>⟨Nat.lt_of_lt_of_le HLA.out (zA HB.out hW).size,((zA HB.out hW).cell (p:=⟨ba,_,none⟩) HLA.out).trans HA0.out,((zA HB.out hW).cell (p:=⟨ba,_,none⟩) HLA.out).trans HA1.out,((zA HB.out hW).cell (p:=⟨ba,_,none⟩) HLA.out).trans HA2.out,Nat.lt_of_lt_of_le HLB.out (zA HB.out hW).size,((zA HB.out hW).cell (p:=⟨bb,_,none⟩) HLB.out).trans HBB0.out,((zA HB.out hW).cell (p:=⟨bb,_,none⟩) HLB.out).trans HBB1.out,((zA HB.out hW).cell (p:=⟨bb,_,none⟩) HLB.out).trans HBB2.out⟩)
     have hdr4:Bw W3 W3.drew:=(Mod.refl [] W3).drew.below;have HBa4:=lH (zA HBW3.out hdr4);have HCa4:=lH (HBX3.out.below hdr4);clear hdr4 y1 y2 yl
     refine wp_region_noPanic (zBe (fun W:World=>ba<W.heap.size∧W.cell? ⟨ba,oa,none⟩=some (.string a.label)∧W.cell? ⟨ba,oa+1,none⟩=some (.slice uaa a.uses.length uca)∧W.cell? ⟨ba,oa+2,none⟩=some (.slice daa a.decls.length dca)∧bb<W.heap.size∧W.cell? ⟨bb,ob,none⟩=some (.string b.label)∧W.cell? ⟨bb,ob+1,none⟩=some (.slice uab b.uses.length ucb)∧W.cell? ⟨bb,ob+2,none⟩=some (.slice dab b.decls.length dcb)) 13 [(true,0),(true,1),(true,2),(true,3),(true,4),(true,5),(true,6),(true,7),(true,8),(true,9),(false,10),(true,11),(false,12)] zBm (by kernel_rfl) (fun _ _ _ _ _ h=>h) (SW4.out _ HBa4.out) ?_)
     iterate 10 (refine zAy (v:=?_) rfl (by rfl) ?_ ?_;rotate_left;(focus (intro wq hSw;(try dsimp only at hSw);go_simp;(try rw [if_neg (by first|omega|(simp;omega))]);(try with_reducible rfl)));(try simp only [gA,gB,gC,Act.put,gD,gE,gF]))
     generalize haj4:(if cb=1 then some (⟨bb,ob,none⟩:Addr) else some ⟨bb,ob+3,none⟩)=bj at *;have HAJ4:=lH haj4;clear haj4;generalize W3.drew=wd4 at *;have k0:=HCa4.out.cell (i:=0) (v:=.string a.label) rfl;have kf0:=HCa4.out.frozen 0;have kl:=HCa4.out.lt;obtain ⟨we4,hwe4⟩:∃v1,v1=wd4.setCell ⟨D,0,none⟩ (.string b.label):=⟨_,rfl⟩
     have HBb4:Hid (Bw wr we4):=by show RowKit.Below _ _ _;rw [hwe4];exact HBa4.out.trans (((Mod.refl [D] wd4).setCell (p:=⟨D,0,none⟩) (by simp) _).upto HBa4.out.size (by intro q hq;simp at hq;have:=HD.out;omega))
     have HCb4:=lH (HCa4.out.set 0 (.string b.label));rw [←hwe4] at HCb4
     (refine zBo rfl (by rfl) (fun K hK=>?_);go_simp)
     rw [←hwe4];clear hwe4 k0 kf0 kl;refine hK.out _ _ (SW4.out _ HBb4.out) ?_;clear hK K;(try simp only [gA,gB,gC,Act.put,gD,gE,gF])
     iterate 1 (refine zAy (v:=?_) rfl (by rfl) ?_ ?_;rotate_left;(focus (intro wq hSw;(try dsimp only at hSw);go_simp;(try rw [if_neg (by first|omega|(simp;omega))]);(try with_reducible rfl)));(try simp only [gA,gB,gC,Act.put,gD,gE,gF]))
     have k0:=HCb4.out.cell (i:=6) (v:=.string ⟨#[]⟩) rfl;have kf0:=HCb4.out.frozen 6;have k1:=HCb4.out.cell (i:=7) (v:=.slice none 0 0) rfl;have kf1:=HCb4.out.frozen 7;have k2:=HCb4.out.cell (i:=8) (v:=.slice none 0 0) rfl;have kf2:=HCb4.out.frozen 8;have kl:=HCb4.out.lt;obtain ⟨W4,hW4⟩:∃v1,v1=(((we4.setCell ⟨D,6,none⟩ (.string b.label)).setCell ⟨D,7,none⟩ (.slice uab b.uses.length ucb)).setCell ⟨D,8,none⟩ (.slice dab b.decls.length dcb)):=⟨_,rfl⟩
     have HBW4:Hid (Bw wr W4):=by show RowKit.Below _ _ _;rw [hW4];exact HBb4.out.trans (((((Mod.refl [D] we4).setCell (p:=⟨D,6,none⟩) (by simp) _).setCell (p:=⟨D,7,none⟩) (by simp) _).setCell (p:=⟨D,8,none⟩) (by simp) _).upto HBb4.out.size (by intro q hq;simp at hq;have:=HD.out;omega))
     have HBX4:Hid (CBox W4 D 71 #[.string b.label,.bool true,.bool true,.string a.label,.slice uaa a.uses.length uca,.slice daa a.decls.length dca,.string b.label,.slice uab b.uses.length ucb,.slice dab b.decls.length dcb]):=by show CBox _ _ _ _;rw [hW4];exact (((HCb4.out.set 6 (.string b.label)).set 7 (.slice uab b.uses.length ucb)).set 8 (.slice dab b.decls.length dcb))
     (refine zBo rfl (by rfl) (fun K hK=>?_);go_simp)
     rw [←hW4];clear hW4 k0 kf0 k1 kf1 k2 kf2 kl;refine hK.out _ _ (SW4.out _ HBW4.out) ?_;clear hK K;(try simp only [gA,gB,gC,Act.put,gD,gE,gF]);refine zBy ?_;clear HBa4 HCa4 HBb4 HCb4 SW4;go_wp2;refine NoPanic.normal ?_;have z0:=HBX4.out.cell (i:=0) (v:=.string b.label) rfl;have z1:=HBX4.out.cell (i:=1) (v:=.bool true) rfl;have z2:=HBX4.out.cell (i:=2) (v:=.bool true) rfl;have z3:=HBX4.out.cell (i:=3) (v:=.string a.label) rfl;have z4:=HBX4.out.cell (i:=4) (v:=.slice uaa a.uses.length uca) rfl
     have z5:=HBX4.out.cell (i:=5) (v:=.slice daa a.decls.length dca) rfl;have z6:=HBX4.out.cell (i:=6) (v:=.string b.label) rfl;have z7:=HBX4.out.cell (i:=7) (v:=.slice uab b.uses.length ucb) rfl;have z8:=HBX4.out.cell (i:=8) (v:=.slice dab b.decls.length dcb) rfl;have zl:=HBX4.out.lt
     have HXT:Hid (Reads w [] (modsT xt) (.slice aj (n - 1) (ca - 1))):=by
      have h1:=HRX.out;rw [←HNX.out] at h1
      have h2:=zGa (size:=3) (f:=modT) (fun _=>rfl) (x:=a) (r:=xt) h1 aj (fun b' o' h0 e=>by
       injection e with e
       injection e with e1 e2
       subst e1 e2;have:=HXN.out
       rw [←HAJ3.out,if_neg (by omega)])
      rwa [HXN.out] at h2
     have HBT:Hid (Reads w [] (modsT bt) (.slice bj (m - 1) (cb - 1))):=by
      have h1:=HRB.out;rw [←HNB.out] at h1
      have h2:=zGa (size:=3) (f:=modT) (fun _=>rfl) (x:=b) (r:=bt) h1 bj (fun b' o' h0 e=>by
       injection e with e
       injection e with e1 e2
       subst e1 e2;have:=HBN2.out
       rw [←HAJ4.out,if_neg (by omega)])
      rwa [HBN2.out] at h2
     have HSLT:Hid (xt.map OMod.label=bt.map OMod.label):=by have:=HSL.out;simp only [List.map_cons,List.cons.injEq] at this;exact this.2
     obtain ⟨ys,hown,hys⟩:=HW.out.1;have HYS:=lH hys;have hA9:=zAa W4 (.cells #[.string b.label,.bool true,.bool true,.string a.label,.slice uaa a.uses.length uca,.slice daa a.decls.length dca,.string b.label,.slice uab b.uses.length ucb,.slice dab b.decls.length dcb] 71);have HR9:=lH (zAs (zJf W4 W4.heap.size (Nat.le_refl _) 71 #[.string b.label,.bool true,.bool true,.string a.label,.slice uaa a.uses.length uca,.slice daa a.decls.length dca,.string b.label,.slice uab b.uses.length ucb,.slice dab b.decls.length dcb] 9 1 rfl (by omega)))
     have HO9:=lH (zAq (zAq hown HBW4.out) hA9);have HBN:=lH (zA HB.out HBW4.out);have HA9:=lH hA9;have hsw:=HBN.out.size;have hsz9:=hA9.size;have hln:=HW.out.2;clear hA9 hown hys
     go_wp2_with (at_builtin;refine zAd rfl _ _ 68 rfl w.heap.size 71 i0 _ 9 152 Tryz.underlying68 hi0 hz0 hz1 hz2 hzs (by decide) _ _ _ rfl HO9.out _ _ _ rfl HR9.out (by intro u hu;simp only [List.mem_cons,List.not_mem_nil,or_false] at hu;rcases hu with rfl|rfl|rfl|rfl|rfl|rfl|rfl|rfl|rfl<;>rfl) (by unfold maxLen;omega) (by omega) (by omega) ?_)
     intro v5 w5 hown5 hg5 hbk5;have HB5:=lH ((HBN.out.trans (HA9.out.mono hsw)).grown hg5 (by omega) (fun x hx=>(HO9.out.lt x hx).1))
     have HO5:Hid (OwnP w w5 w.heap.size v5 (out++[⟨b.label,some a,some b⟩])∧n - 1+(m - 1)+(out++[(⟨b.label,some a,some b⟩:Pair)]).length≤K):=by
      refine ⟨⟨ys++[.string b.label,.bool true,.bool true,.string a.label,.slice uaa a.uses.length uca,.slice daa a.decls.length dca,.string b.label,.slice uab b.uses.length ucb,.slice dab b.decls.length dcb],by rw [List.length_append];exact hown5,?_⟩,by rw [List.length_append,List.length_singleton];omega⟩;rw [List.flatMap_append,List.flatMap_cons,List.flatMap_nil,List.append_nil]
      exact ReadsL.append (show ReadsL w [] (bothT ⟨b.label,some a,some b⟩) _ from ReadsL.append (ds:=[strT b.label,.leaf (.bool true),.leaf (.bool true)]++modT a) (es:=modT b) (ReadsL.cons (Reads.leaf' _ _ _) (ReadsL.cons HUb.out (ReadsL.cons HDDb.out (ReadsL.nil _ _)))) (ReadsL.cons (Reads.leaf' _ _ _) (ReadsL.cons (Reads.leaf' _ _ _) (ReadsL.cons (Reads.leaf' _ _ _) (ReadsL.cons (Reads.leaf' _ _ _) (ReadsL.cons HUa.out (ReadsL.cons HDDa.out (ReadsL.nil _ _)))))))) HYS.out
     clear hown5 hg5 hbk5;go_wp2;go_roundw
     case rel=>exact ⟨xt,bt,_,aj,n - 1,ca - 1,bj,m - 1,cb - 1,rfl,rfl,HN,HO5,HXT,HXN,HBT,HBN2,HSLT,HB5.out⟩
     case measure=>simp only [lenV];omega
end Go.Proofs.YtfkjfdbjhlmjcaaGreatDoor
namespace Go.Proofs.YtfkjfdbjhlmjcaaGreatDoor
open Go.RowKit Go.Shelf
structure FamD (w0 w:World) (R:List (Value×List OEdit)) (D:Nat) (arr:Array Value):Prop where
  fam:Fam w0 w R
  box:CBox w D 71 arr
  off:∀k∈blksF R,k≠D
theorem FamD.below {w0 w w':World} {R:List (Value×List OEdit)} {D:Nat} {arr:Array Value} (h:FamD w0 w R D arr) (m:Bw w w'):FamD w0 w' R D arr:=⟨h.fam.below m,h.box.below m,h.off⟩
theorem FamD.grown {w0 w w':World} {D:Nat} {arr:Array Value} {P S:List (Value×List OEdit)} {v v':Value} {l l2:List OEdit} {xs news:List Value} (h:FamD w0 w (P++(v,l)::S) D arr)
  (h2:ReadsL w (blksF (P++(v,l)::S)) (l.flatMap editT) xs) (h3:ReadsL w (blksF (P++(v,l)::S)) (l2.flatMap editT) news) (ho:w'.ownsRow w0.heap.size 39 5 v' (l.length+l2.length) (xs++news)) (hg:w.grownBy w' v.ownBlock) (hb:v'.ownBlock=v.ownBlock∨v'.ownBlock=some w.heap.size):FamD w0 w' (P++(v',l++l2)::S) D arr:=by
 refine ⟨h.fam.grown h2 h3 ho hg hb,h.box.mod (zAp hg) (fun c=>?_),fun k hk e=>?_⟩
 ·exact h.off D (zC.2 ⟨(v,l),List.mem_append_right _ (List.mem_cons_self ..),by simpa using c⟩) rfl
 ·subst e
  obtain ⟨q,hq,e⟩:=zC.1 hk
  rcases List.mem_append.1 hq with hq|hq
  ·exact h.off k (zC.2 ⟨q,List.mem_append_left _ hq,e⟩) rfl
  rcases List.mem_cons.1 hq with rfl|hq
  ·rcases hb with hb|hb
   ·exact h.off k (zC.2 ⟨(v,l),List.mem_append_right _ (List.mem_cons_self ..),hb.symm.trans e⟩) rfl
   ·have h4:=hb.symm.trans e
    injection h4 with h4
    have:=h.box.lt;omega
  ·exact h.off k (zC.2 ⟨q,List.mem_append_right _ (List.mem_cons_of_mem _ hq),e⟩) rfl
theorem FamD.row {w0 w:World} {D:Nat} {arr:Array Value} {P S:List (Value×List OEdit)} {v:Value} {l:List OEdit} (h:FamD w0 w (P++(v,l)::S) D arr):∃xs,w.ownsRow w0.heap.size 39 5 v l.length xs∧ReadsL w (blksF (P++(v,l)::S)) (l.flatMap editT) xs:=h.fam.rows (v,l) (List.mem_append_right _ (List.mem_cons_self ..))
theorem Fam.val {w0 w:World} {P S:List (Value×List OEdit)} {v:Value} {l:List OEdit} (h:Fam w0 w (P++(v,l)::S)):∃a c,v=.slice a l.length c:=by
 obtain ⟨xs,h1,_⟩:=h.rows (v,l) (List.mem_append_right _ (List.mem_cons_self ..));exact zAk h1
theorem zOi {w:World} {X Y:List Nat}:∀{l:List OEdit} {xs:List Value},(∀e∈l,e.old=[]∧e.fresh=[])→ReadsL w X (l.flatMap editT) xs→ReadsL w Y (l.flatMap editT) xs
  | [],xs,_,h=>by
    have:xs=[]:=by rw [show ([]:List OEdit).flatMap editT=[] from rfl,ReadsL] at h;exact h
    subst this;exact ReadsL.nil _ _
  | e::r,xs,hb,h=>by
    rw [List.flatMap_cons] at h ⊢
    have h1:=h.take 5
    have h2:=h.drop 5
    rw [List.take_left' (show (editT e).length=5 from rfl)] at h1
    rw [List.drop_left' (show (editT e).length=5 from rfl)] at h2
    rw [←List.take_append_drop 5 xs]
    refine ReadsL.append (zOi (fun x hx=>hb x (List.mem_cons_of_mem _ hx)) h2) ?_
    obtain ⟨ao,co,an,cn,e1,o1,o2,ho,f1,f2,hf⟩:=zLz h1
    rw [e1]
    obtain ⟨b1,b2⟩:=hb e (List.mem_cons_self ..)
    rw [b1] at ho ⊢
    rw [b2] at hf ⊢
    have hz:∀{a:Option Addr} {c:Nat},Reads w X (declsT []) (.slice a ([]:List ODecl).length c)→Reads w Y (declsT []) (.slice a ([]:List ODecl).length c):=fun h=>by
      obtain ⟨ys,h1,h2,h3⟩:=Reads.toRow h
      have:ys=[]:=by rw [show ([]:List ODecl).flatMap declT=[] from rfl,ReadsL] at h3;exact h3
      subst this
      exact Reads.ofRow h1 (fun c=>absurd c (by simp)) (ReadsL.nil _ _)
    have e2:editT e=[.leaf (.int .i64 e.kind),strT e.pack,strT e.text,declsT [],declsT []]:=by unfold editT;rw [b1,b2]
    rw [e2]
    exact ReadsL.cons (Reads.leaf' _ _ _) (ReadsL.cons (Reads.leaf' _ _ _) (ReadsL.cons (Reads.leaf' _ _ _) (ReadsL.cons (hz ho) (ReadsL.cons (hz hf) (ReadsL.nil _ _)))))
theorem zQl {k:Int} {p:ByteArray} {us os:List ByteArray}:∀e∈useE k p us os,e.old=[]∧e.fresh=[]:=fun e he=>by
 unfold useE at he;obtain ⟨u,_,rfl⟩:=List.mem_map.1 he;exact ⟨rfl,rfl⟩
theorem zZi {w:World} {ps:List Pair} {a:Option Addr} {c:Nat} (h:Reads w [] (rowT 9 bothT ps) (.slice a ps.length c)) {i:Nat} {p:Pair} (hi:ps[i]?=some p) :
    ∃(b o:Nat) (ua:Option Addr) (uc:Nat) (da:Option Addr) (dc:Nat) (ub:Option Addr) (uk:Nat) (db:Option Addr) (dk:Nat),a=some ⟨b,o,none⟩∧b<w.heap.size ∧
      (∀(j:Nat) (u:Value),[.string p.label,.bool p.a.isSome,.bool p.b.isSome,.string (p.a.getD noMod).label,.slice ua (p.a.getD noMod).uses.length uc,.slice da (p.a.getD noMod).decls.length dc,.string (p.b.getD noMod).label,.slice ub (p.b.getD noMod).uses.length uk,.slice db (p.b.getD noMod).decls.length dk][j]?=some u→w.cell? ⟨b,o+i * 9+j,none⟩=some u) ∧
      Reads w [] (strsT (p.a.getD noMod).uses) (.slice ua (p.a.getD noMod).uses.length uc)∧Reads w [] (declsT (p.a.getD noMod).decls) (.slice da (p.a.getD noMod).decls.length dc)∧Reads w [] (strsT (p.b.getD noMod).uses) (.slice ub (p.b.getD noMod).uses.length uk)∧Reads w [] (declsT (p.b.getD noMod).decls) (.slice db (p.b.getD noMod).decls.length dk):=by
  obtain ⟨b,o,e,hb,hc⟩:=Reads.elem (size:=9) (f:=bothT) (fun _=>rfl) h hi
  obtain ⟨u0,c0,d0⟩:=hc 0 _ rfl
  obtain ⟨u1,c1,d1⟩:=hc 1 _ rfl
  obtain ⟨u2,c2,d2⟩:=hc 2 _ rfl
  obtain ⟨u3,c3,d3⟩:=hc 3 _ rfl
  obtain ⟨u4,c4,d4⟩:=hc 4 _ rfl
  obtain ⟨u5,c5,d5⟩:=hc 5 _ rfl
  obtain ⟨u6,c6,d6⟩:=hc 6 _ rfl
  obtain ⟨u7,c7,d7⟩:=hc 7 _ rfl
  obtain ⟨u8,c8,d8⟩:=hc 8 _ rfl
  obtain rfl:=Reads.leafv d0
  obtain rfl:=Reads.leafv d1
  obtain rfl:=Reads.leafv d2
  obtain rfl:=Reads.leafv d3
  obtain rfl:=Reads.leafv d6
  obtain ⟨ua,uc,rfl,-⟩:=(zAg.1 d4).1.shape
  obtain ⟨da,dc,rfl,-⟩:=zCi d5
  obtain ⟨ub,uk,rfl,-⟩:=(zAg.1 d7).1.shape
  obtain ⟨db,dk,rfl,-⟩:=zCi d8
  refine ⟨b,o,ua,uc,da,dc,ub,uk,db,dk,e,hb,fun j u hj=>?_,d4,d5,d7,d8⟩
  match j,hj with
  | 0,hj=>cases hj;exact c0
  | 1,hj=>cases hj;exact c1
  | 2,hj=>cases hj;exact c2
  | 3,hj=>cases hj;exact c3
  | 4,hj=>cases hj;exact c4
  | 5,hj=>cases hj;exact c5
  | 6,hj=>cases hj;exact c6
  | 7,hj=>cases hj;exact c7
  | 8,hj=>cases hj;exact c8
  | j+9,hj=>cases hj
theorem zJg (k:Int) (p:ByteArray) (us os:List ByteArray):(useE k p us os).length≤us.length:=by
 unfold useE;rw [List.length_map];exact List.length_filter_le _ _
theorem zWf (p:ByteArray) (a b:ODecl) (ks:List Int):(((ks.filter fun k=>!sameD (partD k a) (partD k b)).map (partE7 p a b))).length≤ks.length:=by
 rw [List.length_map];exact List.length_filter_le _ _
theorem zQm (p:ByteArray):∀(n:Nat) {xs bs:List ODecl},xs.length+bs.length=n→(declE p xs bs).length≤3 * n:=by
 intro n
 induction n using Nat.strongRecOn with
 | ind n ih=>
  intro xs bs hn
  match xs,bs with
  | [],[]=>rw [declE];exact Nat.zero_le _
  | a::xs,[]=>
   rw [declE,List.length_cons];have:=ih (xs.length+([]:List ODecl).length) (by simp at hn ⊢;omega) (xs:=xs) (bs:=[]) rfl;simp at hn this;omega
  | [],b::bs=>
   rw [declE,List.length_cons];have:=ih (([]:List ODecl).length+bs.length) (by simp at hn ⊢;omega) (xs:=[]) (bs:=bs) rfl;simp at hn this;omega
  | a::xs,b::bs=>
   rw [declE];split
   ·rw [List.length_cons]
    have:=ih (xs.length+(b::bs).length) (by simp at hn ⊢;omega) (xs:=xs) (bs:=b::bs) rfl;simp at hn this;omega
   split
   ·rw [List.length_cons]
    have:=ih ((a::xs).length+bs.length) (by simp at hn ⊢;omega) (xs:=a::xs) (bs:=bs) rfl;simp at hn this;omega
   ·rw [List.length_append]
    have:=ih (xs.length+bs.length) (by simp at hn ⊢;omega) (xs:=xs) (bs:=bs) rfl;have h2:=zWf p a b [7,8,9];unfold partsL;simp at hn this h2 ⊢;omega
def PSm (p:Pair):Prop:=(usesO p.a).length≤100∧(usesO p.b).length≤100∧(declsO p.a).length≤100∧(declsO p.b).length≤100
theorem zHl {α β:Type} {f:α→List β} {K:Nat}:∀{l:List α},(∀x∈l,(f x).length≤K)→(l.flatMap f).length≤l.length * K
 | [],_=>by simp
 | x::r,h=>by
  rw [List.flatMap_cons,List.length_append,List.length_cons,Nat.succ_mul];have h1:=h x (List.mem_cons_self ..);have h2:=zHl (f:=f) (K:=K) (l:=r) fun y hy=>h y (List.mem_cons_of_mem _ hy);omega
theorem yCe {qs:List Pair} (h:∀p∈qs,PSm p) (hl:qs.length≤200):(addM qs).length≤200∧(addU qs).length≤20000∧(chgD qs).length≤120000∧(remU qs).length≤20000∧(remM qs).length≤200:=by
 refine ⟨?_,?_,?_,?_,?_⟩
 ·unfold addM;rw [List.length_map];exact Nat.le_trans (List.length_filter_le _ _) hl
 ·unfold addU
  exact Nat.le_trans (zHl (K:=100) fun p hp=>Nat.le_trans (zJg _ _ _ _) (h p hp).2.1) (by omega)
 ·unfold chgD
  refine Nat.le_trans (zHl (K:=600) fun p hp=>?_) (by omega);have h1:=zQm p.label _ (xs:=declsO p.a) (bs:=declsO p.b) rfl;have h2:=h p hp;unfold PSm at h2;omega
 ·unfold remU
  exact Nat.le_trans (zHl (K:=100) fun p hp=>Nat.le_trans (zJg _ _ _ _) (h p hp).1) (by omega)
 ·unfold remM;rw [List.length_map];exact Nat.le_trans (List.length_filter_le _ _) hl
theorem zZj:∀(n:Nat) {a b:List OMod},a.length+b.length=n→(pairsL a b).length≤n:=by
 intro n
 induction n using Nat.strongRecOn with
 | ind n ih=>
  intro a b hn
  match a,b with
  | [],[]=>rw [pairsL];exact Nat.zero_le _
  | x::a,[]=>
   rw [pairsL,List.length_cons];have:=ih (a.length+([]:List OMod).length) (by simp at hn ⊢;omega) (a:=a) (b:=[]) rfl;simp at hn this;omega
  | [],y::b=>
   rw [pairsL,List.length_cons];have:=ih (([]:List OMod).length+b.length) (by simp at hn ⊢;omega) (a:=[]) (b:=b) rfl;simp at hn this;omega
  | x::a,y::b=>
   rw [pairsL];split
   ·rw [List.length_cons]
    have:=ih (a.length+(y::b).length) (by simp at hn ⊢;omega) (a:=a) (b:=y::b) rfl;simp at hn this;omega
   split
   ·rw [List.length_cons]
    have:=ih ((x::a).length+b.length) (by simp at hn ⊢;omega) (a:=x::a) (b:=b) rfl;simp at hn this;omega
   ·rw [List.length_cons]
    have:=ih (a.length+b.length) (by simp at hn ⊢;omega) (a:=a) (b:=b) rfl;simp at hn this;omega
theorem zQn {Q:OMod→Prop}:∀(n:Nat) {a b:List OMod},a.length+b.length=n→(∀m∈a,Q m)→(∀m∈b,Q m)→∀p∈pairsL a b,(∀m,p.a=some m→Q m)∧∀m,p.b=some m→Q m:=by
  intro n
  induction n using Nat.strongRecOn with
  | ind n ih=>
    intro a b hn ha hb p hp
    have hN:∀m,(none:Option OMod)=some m→Q m:=fun m e=>by cases e
    have hS:∀{x:OMod},Q x→∀m,some x=some m→Q m:=fun h m e=>by cases e;exact h
    match a,b with
    | [],[]=>rw [pairsL] at hp;cases hp
    | x::a,[]=>
      rw [pairsL] at hp
      rcases List.mem_cons.1 hp with rfl|hp
      · exact ⟨hS (ha x (List.mem_cons_self ..)),hN⟩
      · exact ih (a.length+([]:List OMod).length) (by simp at hn ⊢;omega) rfl (fun m hm=>ha m (List.mem_cons_of_mem _ hm)) hb p hp
    | [],y::b=>
      rw [pairsL] at hp
      rcases List.mem_cons.1 hp with rfl|hp
      · exact ⟨hN,hS (hb y (List.mem_cons_self ..))⟩
      · exact ih (([]:List OMod).length+b.length) (by simp at hn ⊢;omega) rfl ha (fun m hm=>hb m (List.mem_cons_of_mem _ hm)) p hp
    | x::a,y::b=>
      rw [pairsL] at hp
      split at hp
      · rcases List.mem_cons.1 hp with rfl|hp
        · exact ⟨hS (ha x (List.mem_cons_self ..)),hN⟩
        · exact ih (a.length+(y::b).length) (by simp at hn ⊢;omega) rfl (fun m hm=>ha m (List.mem_cons_of_mem _ hm)) hb p hp
      split at hp
      · rcases List.mem_cons.1 hp with rfl|hp
        · exact ⟨hN,hS (hb y (List.mem_cons_self ..))⟩
        · exact ih ((x::a).length+b.length) (by simp at hn ⊢;omega) rfl ha (fun m hm=>hb m (List.mem_cons_of_mem _ hm)) p hp
      · rcases List.mem_cons.1 hp with rfl|hp
        · exact ⟨hS (ha x (List.mem_cons_self ..)),hS (hb y (List.mem_cons_self ..))⟩
        · exact ih (a.length+b.length) (by simp at hn ⊢;omega) rfl (fun m hm=>ha m (List.mem_cons_of_mem _ hm)) (fun m hm=>hb m (List.mem_cons_of_mem _ hm)) p hp
theorem zUa {Q:List ByteArray→Prop} {m:Option OMod} (h0:Q []) (h:∀x,m=some x→Q x.uses):Q (usesO m):=by
 cases m with
 | none=>exact h0
 | some x=>exact h x rfl
theorem zHm {Q:List ODecl→Prop} {m:Option OMod} (h0:Q []) (h:∀x,m=some x→Q x.decls):Q (declsO m):=by
 cases m with
 | none=>exact h0
 | some x=>exact h x rfl
theorem zSq {n:Nat} {a b:List OMod} (ha:SzB n a) (hb:SzB n b) (hn:n≤100):(∀p∈pairsL a b,PSm p)∧(∀p∈pairsL a b,(∀d∈declsO p.a,d.names.length≤1000000∧nodesN d.body≤1000000)∧∀d∈declsO p.b,d.names.length≤1000000∧nodesN d.body≤1000000):=by
 refine ⟨fun p hp=>?_,fun p hp=>?_⟩
 ·obtain ⟨h1,h2⟩:=zQn (Q:=fun m=>m.uses.length≤100∧m.decls.length≤100) _ rfl (fun m hm=>⟨Nat.le_trans (ha.mods m hm).1.2.2.1 hn,Nat.le_trans (ha.mods m hm).1.2.2.2 hn⟩) (fun m hm=>⟨Nat.le_trans (hb.mods m hm).1.2.2.1 hn,Nat.le_trans (hb.mods m hm).1.2.2.2 hn⟩) p hp
  exact ⟨zUa (Q:=fun l=>l.length≤100) (Nat.zero_le _) fun x e=>(h1 x e).1,zUa (Q:=fun l=>l.length≤100) (Nat.zero_le _) fun x e=>(h2 x e).1,zHm (Q:=fun l=>l.length≤100) (Nat.zero_le _) fun x e=>(h1 x e).2,zHm (Q:=fun l=>l.length≤100) (Nat.zero_le _) fun x e=>(h2 x e).2⟩
 ·obtain ⟨h1,h2⟩:=zQn (Q:=fun m=>∀d∈m.decls,d.names.length≤1000000∧nodesN d.body≤1000000) _ rfl (fun m hm d hd=>⟨((ha.mods m hm).2 d hd).1.len,((ha.mods m hm).2 d hd).2⟩) (fun m hm d hd=>⟨((hb.mods m hm).2 d hd).1.len,((hb.mods m hm).2 d hd).2⟩) p hp
  exact ⟨zHm (Q:=fun l=>∀d∈l,d.names.length≤1000000∧nodesN d.body≤1000000) (fun d h=>(List.not_mem_nil h).elim) fun x e=>h1 x e,zHm (Q:=fun l=>∀d∈l,d.names.length≤1000000∧nodesN d.body≤1000000) (fun d h=>(List.not_mem_nil h).elim) fun x e=>h2 x e⟩
theorem zZk {ps:List Pair} {i:Nat} {p:Pair} (h:ps[i]?=some p):addM (ps.take (i+1))=addM (ps.take i)++if p.a.isSome then [] else [⟨1,p.label,noText,[],[]⟩]:=by
 unfold addM;rw [zDy h,List.filter_append,List.map_append,List.filter_cons]
 cases p.a<;>rfl
theorem zZl {ps:List Pair} {i:Nat} {p:Pair} (h:ps[i]?=some p):remM (ps.take (i+1))=remM (ps.take i)++if p.b.isSome then [] else [⟨2,p.label,noText,[],[]⟩]:=by
 unfold remM;rw [zDy h,List.filter_append,List.map_append,List.filter_cons]
 cases p.b<;>rfl
theorem zZm {ps:List Pair} {i:Nat} {p:Pair} (h:ps[i]?=some p):addU (ps.take (i+1))=addU (ps.take i)++useE 3 p.label (usesO p.b) (usesO p.a):=by
 unfold addU;rw [zDy h,List.flatMap_append,List.flatMap_cons,List.flatMap_nil,List.append_nil]
theorem zZn {ps:List Pair} {i:Nat} {p:Pair} (h:ps[i]?=some p):chgD (ps.take (i+1))=chgD (ps.take i)++declE p.label (declsO p.a) (declsO p.b):=by
 unfold chgD;rw [zDy h,List.flatMap_append,List.flatMap_cons,List.flatMap_nil,List.append_nil]
theorem zZo {ps:List Pair} {i:Nat} {p:Pair} (h:ps[i]?=some p):remU (ps.take (i+1))=remU (ps.take i)++useE 4 p.label (usesO p.a) (usesO p.b):=by
 unfold remU;rw [zDy h,List.flatMap_append,List.flatMap_cons,List.flatMap_nil,List.append_nil]
end Go.Proofs.YtfkjfdbjhlmjcaaGreatDoor
