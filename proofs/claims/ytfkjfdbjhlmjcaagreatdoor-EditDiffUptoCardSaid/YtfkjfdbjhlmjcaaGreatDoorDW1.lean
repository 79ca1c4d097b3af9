/- Plain: -/
import Derived.Test.YtfkjfdbjhlmjcaaGreatDoorDShK
set_option maxRecDepth 100000
set_option maxHeartbeats 16000000
namespace Go.Proofs.YtfkjfdbjhlmjcaaGreatDoor
open Go.RowKit
end Go.Proofs.YtfkjfdbjhlmjcaaGreatDoor
namespace Go.Proofs.YtfkjfdbjhlmjcaaGreatDoor
open Go.RowKit Go.Shelf
attribute [local go_sem] Oper.semAt_some
def fName:ByteArray:=⟨#[102]⟩
def gName:ByteArray:=⟨#[103]⟩
theorem yBj (k n:Int) (hk:inI k) (hn:inI n):SmX 40000 (.mk k ⟨#[]⟩ ⟨#[]⟩ n 0 []):=.mk (by decide) (by decide) hk hn ⟨by decide,by decide⟩ (fun y hy=>by cases hy)
theorem zAw (w:World) (B:Nat) (hB:B≤w.heap.size) (t:TypeId) (xs:Array Value) (sz n:Nat) (h:xs.size=n * sz) (hn:n≤1000000):(w.alloc (.cells xs t)).ownsRow B t sz (.slice (some ⟨w.heap.size,0,none⟩) n n) n xs.toList:=
 ⟨by rw [Array.length_toList];exact h,.inr ⟨w.heap.size,n,_,rfl,hB,World.alloc_heap_new _ _,Nat.le_refl _,by unfold maxLen;omega,h,by rw [←h,←Array.length_toList,List.take_length]⟩⟩
def OwnE (w0 w:World) (B:Nat) (v:Value) (l:List OEdit):Prop:=∃xs,w.ownsRow B 39 5 v l.length xs∧ReadsL w0 [] (l.flatMap editT) xs
theorem OwnE.below {w0 w w':World} {B:Nat} {v:Value} {l:List OEdit} (h:OwnE w0 w B v l) (m:Bw w w'):OwnE w0 w' B v l:=by
 obtain ⟨xs,h1,h2⟩:=h;exact ⟨xs,zAe h1 m,h2⟩
theorem OwnE.reads {w0 w:World} {B:Nat} {v:Value} {l:List OEdit} (h:OwnE w0 w B v l) (m:Bw w0 w):Reads w [] (editsT l) v:=by
 obtain ⟨xs,h1,h2⟩:=h;exact Reads.ofRow (zAg h1) (fun _ b _=>by simp) (h2.below m)
theorem OwnE.nilA (w0:World):OwnE w0 (w0.alloc (.cells #[] 39)) w0.heap.size (.slice (some ⟨w0.heap.size,0,none⟩) 0 0) []:=⟨[],World.ownsRow_made w0 #[] 0 (Nat.le_refl _) (Nat.zero_le _) rfl,ReadsL.nil _ _⟩
theorem OwnE.nil (w0 w:World) (B:Nat):OwnE w0 w B (.slice none 0 0) []:=⟨[],World.ownsRow_nil _ _ _ _,ReadsL.nil _ _⟩
theorem OwnE.val {w0 w:World} {B:Nat} {v:Value} {l:List OEdit} (h:OwnE w0 w B v l):∃a c,v=.slice a l.length c:=by
 obtain ⟨xs,h1,_⟩:=h;exact zAh h1
theorem OwnE.lt {w0 w:World} {B:Nat} {v:Value} {l:List OEdit} (h:OwnE w0 w B v l) {q:Nat} (hq:v.ownBlock=some q):B≤q∧q<w.heap.size:=by
 obtain ⟨xs,h1,_⟩:=h;exact h1.lt q hq
theorem OwnE.snoc {w0 w':World} {B:Nat} {v':Value} {l:List OEdit} {e:OEdit} {xs:List Value} {ao:Option Addr} {co:Nat} {af:Option Addr} {cf:Nat} (hx:ReadsL w0 [] (l.flatMap editT) xs) (he:EditIn w0 e ao co af cf) (h:w'.ownsRow B 39 5 v' (l.length+1) (xs++[.int .i64 e.kind,.string e.pack,.string e.text,.slice ao e.old.length co,.slice af e.fresh.length cf])):OwnE w0 w' B v' (l++[e]):=by
 refine ⟨_,by rw [List.length_append];exact h,?_⟩;rw [List.flatMap_append,List.flatMap_cons,List.flatMap_nil,List.append_nil];exact ReadsL.append (ReadsL.cons (Reads.leaf' _ _ _) (ReadsL.cons (Reads.leaf' _ _ _) (ReadsL.cons (Reads.leaf' _ _ _) (ReadsL.cons he.old (ReadsL.cons he.fresh (ReadsL.nil _ _)))))) hx
theorem zGp {o r:List OEdit} {x:OEdit}:o++x::r=(o++[x])++r:=by rw [List.append_assoc];rfl
theorem zYl {k:Int} {p:ByteArray} {us os:List ByteArray} {i:Nat} {u:ByteArray} (h:us[i]?=some u):useE k p (us.drop i) os=if memS u os then useE k p (us.drop (i+1)) os else ⟨k,p,u,[],[]⟩::useE k p (us.drop (i+1)) os:=by
 unfold useE;obtain ⟨hi,e⟩:=List.getElem?_eq_some_iff.1 h;rw [List.drop_eq_getElem_cons hi,e,List.filter_cons]
 cases memS u os<;>rfl
theorem zYm (w:World) (k:Int) (p u:ByteArray):EditIn w ⟨k,p,u,[],[]⟩ none 0 none 0:=⟨Reads.nilRow _ _ _ _,Reads.nilRow _ _ _ _,Nat.le_refl _,Nat.zero_le _,Nat.le_refl _,Nat.zero_le _⟩
theorem zEo (k:Int) (p:ByteArray) (us os:List ByteArray) (ua oa:Option Addr) (uc oc:Nat) (w:World) (hu:Strs w (.slice ua us.length uc) us) (ho:Strs w (.slice oa os.length oc) os) (hn:us.length≤40000) (hon:os.length≤40000) :
  Calls Tryz.prog 39 #[.int .i64 k,.string p,.slice ua us.length uc,.slice oa os.length oc] w fun r w'=>∃v,r=.returned v∧OwnE w w' w.heap.size v (useE k p us os)∧Bw w w':=by
 obtain ⟨i0,z,hi,hz0,hzs,hz1,hz2⟩:=zAn zDg;obtain ⟨_,_,e,hlc,hcm,hcell⟩:=hu.shape
 cases e
 have HC:=lH hcell;have HO:=lH ho;have HE:Hid (useE k p us os=([]:List OEdit)++useE k p (us.drop 0) os):=rfl;clear hu ho hcell;generalize useE k p us os=T at *
 go_enter Tryz.func39,Tryz.ntmps39
 go_wp2
 go_loopw [14,9] (fun iv ov wr=>∃(i:Nat) (out:List OEdit),i≤us.length∧iv=.int .i64 i∧Hid (T=out++useE k p (us.drop i) os)∧Hid (OwnE w wr w.heap.size ov out∧out.length≤i)∧Bw w wr) (fun iv _ _=>us.length - (intOf iv).toNat)
 case atStart=>exact ⟨0,[],Nat.zero_le _,rfl,HE,⟨OwnE.nil _ _ _,Nat.zero_le _⟩,zAq _⟩
 case round=>
  obtain ⟨i,out,hil,rfl,HI,HW,hb⟩:=hrel;obtain ⟨sa,sc,rfl⟩:=HW.out.1.val
  by_cases hiu:i<us.length
  ·have hd:decide ((i:Int)<(us.length:Int))=true:=decide_eq_true (by omega)
   have hir:(i:Int)<(us.length:Int):=by omega
   obtain ⟨u,hui⟩:∃u,us[i]?=some u:=⟨_,List.getElem?_eq_getElem hiu⟩;obtain ⟨b,o,rfl,hbl,hc⟩:=HC.out i hiu
   have ck:wr.cell? ⟨b,o+i,none⟩=some (.string u):=by
    have:=(hb.cell (p:=⟨b,o+i,none⟩) hbl).trans (hc i hiu);rwa [show us.getD i ByteArray.empty=u from zDr hui] at this
   have hbr:b<wr.heap.size:=Nat.lt_of_lt_of_le hbl hb.size;have HN:=lH (HI.out.trans (congrArg (out++·) (zYl (k:=k) (p:=p) (os:=os) hui)));have HS:=lH (zHj (.slice oa os.length oc) u os wr (HO.out.below hb) hon);clear hc HI hui;generalize memS u os=q at *
   cases q with
   | true=>
    simp only [if_true] at HN
    go_wp2_with (fail)
    refine HS.out.mono ?_;rintro r w1 ⟨rfl,hw1⟩;subst hw1;have HO2:Hid (OwnE w wr w.heap.size (.slice sa out.length sc) out∧out.length≤i+1):=⟨HW.out.1,Nat.le_succ_of_le HW.out.2⟩;clear HS HW;go_wp2;go_roundw
    case rel=>exact ⟨i+1,out,by omega,by go_num,HN,HO2,hb⟩
    case measure=>simp [intOf];omega
   | false=>
    simp only [Bool.false_eq_true,if_false] at HN
    rw [zGp] at HN;go_wp2_with (fail)
    refine HS.out.mono ?_;rintro r w1 ⟨rfl,hw1⟩;subst hw1;obtain ⟨xs,hown,hxs⟩:=HW.out.1;have hln:=HW.out.2;have HXS:=lH hxs;have hsw:=hb.size;have hA3:=zAb wr (.cells #[.int .i64 k,.string p,.string u,.slice none 0 0,.slice none 0 0] 39);have HR3:=lH (zAg (zAw wr wr.heap.size (Nat.le_refl _) 39 #[.int .i64 k,.string p,.string u,.slice none 0 0,.slice none 0 0] 5 1 rfl (by omega)));have HO3:=lH (zAe hown hA3);have HA3:=lH hA3;have HBB:=lH hb;have hsz3:=hA3.size;clear hA3 hown hxs HS HW
    go_wp2_with (at_builtin;refine zAa rfl _ _ 23 rfl w.heap.size 39 i0 _ 5 88 Tryz.underlying23 hi hz0 hz1 hz2 hzs (by decide) _ _ _ rfl HO3.out _ _ _ rfl HR3.out (by intro u hu;simp at hu;rcases hu with rfl|rfl|rfl|rfl|rfl<;>rfl) (by unfold maxLen;omega) (by omega) (by omega) ?_)
    intro v5 w5 hown5 hg5 hbk5;have HB5:=lH (((HBB.out.trans (HA3.out.mono hsw))).grown hg5 (by omega) (fun x hx=>(HO3.out.lt x hx).1));have HO5:Hid (OwnE w w5 w.heap.size v5 (out++[⟨k,p,u,[],[]⟩])∧(out++[(⟨k,p,u,[],[]⟩:OEdit)]).length≤i+1):=⟨OwnE.snoc HXS.out (zYm w k p u) hown5,by rw [List.length_append];simp;omega⟩;clear hown5 hg5 hbk5;go_wp2;go_roundw
    case rel=>exact ⟨i+1,_,by omega,by go_num,HN,HO5,HB5.out⟩
    case measure=>simp [intOf];omega
  ·have hd:decide ((i:Int)<(us.length:Int))=false:=decide_eq_false (by omega)
   have HF:Hid (T=out):=by show _=_;rw [HI.out,List.drop_eq_nil_of_le (show us.length≤i by omega)];exact List.append_nil _
   have hO:=HW.out.1;have HO2:Hid (OwnE w wr w.heap.size (.slice sa out.length sc) T):=by show OwnE _ _ _ _ _;rw [HF.out];exact hO
   clear hO HI HW;go_wp2;go_ret;exact ⟨_,rfl,HO2.out,hb⟩
theorem zYn (n:Nat) (hn:n≤4000000) (w:World) :
  Calls Tryz.prog 91 #[.slice none 0 0,.int .i64 n] w fun e w'=>∃v,e=.returned v∧w'.ownsRow w.heap.size 39 5 v 0 []∧Bw w w':=by
 rcases Nat.eq_zero_or_pos n with rfl|h
 ·refine (Any8.slices_Grow_room Tryz.growE none 0 0 0 w (Nat.le_refl _) (by omega) (by omega) (by omega)).mono ?_
  rintro e w' ⟨rfl,rfl⟩;exact ⟨_,rfl,World.ownsRow_nil _ _ _ _,zAq _⟩
 ·obtain ⟨i,z,hi,hz,hzs,hs,hb⟩:=zAn zDg
  refine (Any8.slices_Grow_grow Tryz.growE i z hi hz (by omega) none 0 0 n [] w (Nat.le_refl _) (by omega) (by rw [hb];omega) (by omega) (by simp) (fun _=>rfl) (fun _ h=>by cases h)).mono ?_;rintro e w' ⟨rfl,rfl⟩;refine ⟨_,rfl,?_,?_⟩
  ·have hge:=grownCap_ge w (0+n) 0 39
   refine World.ownsRow_made (base:=w.heap.size) (size:=5) w.drew _ _ (Nat.le_refl _) (grownCap_le_maxLen w _ _ _ (by unfold maxLen;omega)) ?_;have e1:Tryz.growE_ren.t 25=39:=rfl;rw [e1];simp only [Array.size_append,size_zeroCells,hzs,List.size_toArray,List.length_nil]
   omega
  ·exact ((Mod.refl [] w).drew.alloc _).below
def sumK (R:List (Value×List OEdit)) (k:Nat):Nat:=((R.take k).map fun q=>q.2.length).sum
def allK (R:List (Value×List OEdit)):List OEdit:=R.flatMap fun q=>q.2
theorem yDi {R:List (Value×List OEdit)} {k:Nat} {q:Value×List OEdit} (h:R[k]?=some q):sumK R (k+1)=sumK R k+q.2.length:=by
 unfold sumK;rw [zDs h,List.map_append,List.sum_append];simp
theorem yDj (R:List (Value×List OEdit)) (k:Nat):sumK R k≤sumK R R.length:=by
 unfold sumK;rw [List.take_length]
 conv=>rhs;rw [←List.take_append_drop k R,List.map_append,List.sum_append]
 exact Nat.le_add_right _ _
theorem zTm (R:List (Value×List OEdit)):sumK R R.length=(allK R).length:=by
 unfold sumK allK;rw [List.take_length,List.length_flatMap]
theorem yDk {w:World} {R:List (Value×List OEdit)} (h:∀q∈R,Reads w [] (editsT q.2) q.1):∃F:Nat→List Value,∀k q,R[k]?=some q→IsRow w 5 q.1 q.2.length (F k)∧ReadsL w [] (q.2.flatMap editT) (F k):=by
 have:∀k:Nat,∃xs:List Value,∀q:Value×List OEdit,R[k]?=some q→IsRow w 5 q.1 q.2.length xs∧ReadsL w [] (q.2.flatMap editT) xs:=fun k=>by
  cases hk:R[k]? with
  | none=>exact ⟨[],fun q h=>by cases h⟩
  | some q=>
   obtain ⟨xs,h1,-,h2⟩:=Reads.toRow (h q (List.mem_of_getElem? hk));exact ⟨xs,fun q' e=>by cases e;exact ⟨h1,h2⟩⟩
 exact ⟨fun k=>Classical.choose (this k),fun k=>Classical.choose_spec (this k)⟩
theorem zYo {w:World}:∀{R:List (Value×List OEdit)} {F:Nat→List Value},(∀k q,R[k]?=some q→ReadsL w [] (q.2.flatMap editT) (F k))→ReadsL w [] ((allK R).flatMap editT) ((List.range R.length).flatMap F):=by
 intro R F h
 have:∀k,k≤R.length→ReadsL w [] ((allK (R.take k)).flatMap editT) ((List.range k).flatMap F):=fun k=>by
  induction k with
  | zero=>intro _;exact ReadsL.nil _ _
  | succ k ih=>
   intro hk;have hq:R[k]?=some R[k]:=List.getElem?_eq_getElem (by omega);have e1:allK (R.take (k+1))=allK (R.take k)++R[k].2:=by unfold allK;rw [zDs hq,List.flatMap_append];simp
   rw [e1,List.range_succ,List.flatMap_append,List.flatMap_append];refine ReadsL.append ?_ (ih (by omega));have:=h k _ hq
   simpa using this
 have:=this R.length (Nat.le_refl _);rwa [List.take_length] at this
theorem zSk (R:List (Value×List OEdit)) (b M:Nat) (w:World) (hM:R.length=M) (hr:∀q∈R,Reads w [] (editsT q.2) q.1) (hb:b<w.heap.size) (hc:∀k q,R[k]?=some q→w.cell? ⟨b,k,none⟩=some q.1) (hs:sumK R R.length≤1000000) (hm:M≤1000) :
  Calls Tryz.prog 41 #[.slice (some ⟨b,0,none⟩) M M] w fun e w'=>∃a c,e=.returned (.slice a (allK R).length c)∧Reads w' [] (editsT (allK R)) (.slice a (allK R).length c)∧Bw w w':=by
 obtain ⟨i0,z,hi,hz0,hzs,hz1,hz2⟩:=zAn zDg;obtain ⟨N,hN⟩:∃N:Nat,N=sumK R R.length:=⟨_,rfl⟩;have HG:=lH (zYn N (by omega) w);obtain ⟨F,hF⟩:=yDk hr;have HX:Hid (ReadsL w [] ((allK R).flatMap editT) ((List.range M).flatMap F)):=by show ReadsL _ _ _ _;rw [←hM];exact zYo fun k q h=>(hF k q h).2
 obtain ⟨S,XS,hS0,hX0,hS2,hX2,hK⟩:∃(S:Nat→Nat) (XS:Nat→List Value),S 0=0∧XS 0=[]∧S M=N∧XS M=(List.range M).flatMap F ∧
   ∀k,k<M→∃a n c xs,w.cell? ⟨b,k,none⟩=some (.slice a n c)∧S (k+1)=S k+n∧S (k+1)≤2000000∧IsRow w 5 (.slice a n c) n xs∧(∀u∈xs,u.oneCell'=true)∧XS (k+1)=XS k++xs:=by
  refine ⟨sumK R,fun k=>(List.range k).flatMap F,rfl,rfl,by rw [hN,hM],rfl,fun k hk=>?_⟩;have hq:R[k]?=some R[k]:=List.getElem?_eq_getElem (by omega);obtain ⟨h1,h2⟩:=hF k _ hq;obtain ⟨_,a,c,e,_⟩:=h1;have h1:=(hF k _ hq).1;refine ⟨a,R[k].2.length,c,F k,by rw [←e];exact hc k _ hq,yDi hq,by have:=yDj R (k+1);omega,by rw [←e];exact h1,zEd h2,by show (List.range (k+1)).flatMap F=_;rw [List.range_succ,List.flatMap_append];simp⟩
 have HK:=lH hK;have HS0:=lH hS0;have HX0:=lH hX0;have HS2:=lH hS2;have HX2':=lH hX2;have HN:Hid (N=(allK R).length):=by show _=_;rw [hN];exact zTm R
 clear hN hr hF hS0 hX0 hS2 hX2 hK hc hs hM
 go_enter Tryz.func41,Tryz.ntmps41
 go_wp2
 go_loop [3,11] (fun sv iv=>∃k:Nat,k≤M∧iv=.int .i64 k∧sv=.int .i64 (S k:Int)) (fun _ iv=>M - (intOf iv).toNat)
 case atStart=>exact ⟨0,by omega,rfl,by rw [HS0.out];rfl⟩
 case round=>
  obtain ⟨k,hk,rfl,rfl⟩:=hrel
  by_cases hk2:k<M
  ·have hd:decide ((k:Int)<(M:Int))=true:=decide_eq_true (by omega)
   have hir:(k:Int)<(M:Int):=by omega
   obtain ⟨a,n,c,xs,hcell,hs1,hs2,-⟩:=HK.out k hk2;have HS1:=lH hs1;have q:wrap64 ((S k:Int)+(n:Int))=(S (k+1):Int):=by rw [hs1];unfold wrap64;omega
   have HQ:=lH q;clear hs1;have q3:¬((S (k+1):Int)<0):=by omega
   go_wp2
   go_round
   case rel=>exact ⟨k+1,by omega,by go_num,by rw [HQ.out]⟩
   case measure=>simp [intOf];omega
  ·have hd:decide ((k:Int)<(M:Int))=false:=decide_eq_false (by omega)
   obtain rfl:M=k:=by omega
   have HG2:Hid (Calls Tryz.prog 91 #[.slice none 0 0,.int .i64 (S M:Int)] w fun e w'=>∃v,e=.returned v∧w'.ownsRow w.heap.size 39 5 v 0 []∧Bw w w'):=by show Calls _ _ _ _ _;rw [HS2.out];exact HG.out
   clear HG hk hk2;go_wp2_with (fail)
   refine HG2.out.mono ?_;rintro e w1 ⟨v,rfl,hown,hb1⟩;have HOW:=lH hown;clear hown HG2 hd;go_wp2
   go_loopw [6,27] (fun sv iv wr=>∃k:Nat,k≤M∧iv=.int .i64 k∧Hid (wr.ownsRow w.heap.size 39 5 sv (S k) (XS k))∧Bw w wr) (fun _ iv _=>M - (intOf iv).toNat)
   case atStart=>exact ⟨0,by omega,rfl,by rw [HS0.out,HX0.out];exact HOW,hb1⟩
   case round=>
    obtain ⟨k,hk,rfl,HO,hb'⟩:=hrel;clear HOW
    by_cases hk2:k<M
    ·have hd:decide ((k:Int)<(M:Int))=true:=decide_eq_true (by omega)
     have hir:(k:Int)<(M:Int):=by omega
     obtain ⟨a,n,c,xs,hcell,hs1,hs2,hrow,hone,hxs⟩:=HK.out k hk2;have hc':=(hb'.cell (p:=⟨b,_,none⟩) hb).trans hcell;have hbr:b<wr.heap.size:=Nat.lt_of_lt_of_le hb hb'.size;have hsz:=hb'.size;have HS1:=lH hs1;have HXK:=lH hxs;have hle:S k+n≤2000000:=by omega
     have hrow':=hrow.below hb';have hown:=HO.out;clear hs1 hxs hs2 hcell hrow;go_wp2_with (at_builtin;refine zAa rfl _ _ 23 rfl w.heap.size 39 i0 _ 5 88 Tryz.underlying23 hi hz0 hz1 hz2 hzs (by decide) _ _ _ rfl hown _ _ _ rfl hrow' hone (by unfold maxLen;omega) (by omega) (by omega) ?_)
     intro v3 w3 hown3 hg3 hb3;have hB3:Bw w w3:=hb'.grown hg3 hsz (fun j hj=>(HO.out.lt j hj).1);rw [←HS1.out,←HXK.out] at hown3;have HO3:=lH hown3;clear hown3 hown;go_wp2;go_roundw
     case rel=>exact ⟨k+1,by omega,by go_num,HO3,hB3⟩
     case measure=>simp [intOf];omega
    ·have hd:decide ((k:Int)<(M:Int))=false:=decide_eq_false (by omega)
     obtain rfl:M=k:=by omega
     have HOF:=HO.out;rw [HS2.out,HX2'.out,HN.out] at HOF;obtain ⟨av,cv,rfl⟩:=zAh HOF;have HF:=lH (Reads.ofRow (f:=editT) (l:=allK R) (X:=[]) (zAg HOF) (fun _ b _=>by simp) (HX.out.below hb'));clear HO HOF;go_wp2;go_ret;exact ⟨av,cv,rfl,HF.out,hb'⟩
end Go.Proofs.YtfkjfdbjhlmjcaaGreatDoor
