/- The encoding of edits, plainly: -/
import Derived.Test.YtfkjfdbjhlmjcaaGreatDoorKBI
namespace Go.Proofs.YtfkjfdbjhlmjcaaGreatDoor
def digs:Nat→Nat→List UInt8
  | 0,n=>[UInt8.ofNat n]
  | f+1,n=>if n<128 then [UInt8.ofNat n] else UInt8.ofNat (n % 128+128)::digs f (n / 128)
def intB (n:Nat):List UInt8:=digs 8 n
def putI (n:Int):List UInt8:=if 0≤n∧n≤1099511627776 then intB n.toNat else []
def putT (s:ByteArray):List UInt8:=if s.size≤65536 then intB s.size++s.data.toList else []
def putB (b:Bool):List UInt8:=putI (if b then 1 else 0)
def twice (n:Int):Int:=if n<0 then 1 - 2 * n else 2 * n
mutual
def encX:Ex→List UInt8
 | .mk k n m i d s=>putI k++(putT n++(putT m++(putI (twice i)++(putI d++(putI s.length++encL s)))))
def encL:List Ex→List UInt8
 | []=>[]
 | x::r=>encX x++encL r
end
theorem zNy (x:Ex):encX x=putI x.kind++(putT x.name++(putT x.more++(putI (twice x.num)++(putI x.den++(putI x.subs.length++encL x.subs))))):=by cases x;rw [encX];rfl
def encN (l:List ByteArray):List UInt8:=l.flatMap putT
def encD (d:ODecl):List UInt8:=putI d.id++(putI d.kind++(putB d.pub++(putB d.doubt++(putI d.names.length++(encN d.names++encX d.body)))))
def encDs (l:List ODecl):List UInt8:=putI l.length++l.flatMap encD
def encE (e:OEdit):List UInt8:=putI e.kind++(putT e.pack++(putT e.text++(encDs e.old++encDs e.fresh)))
theorem zRp (s:ByteArray):s.data.toList.length=s.size:=by rw [Array.length_toList];rfl
inductive EncOk:Ex→Prop
 | mk {k:Int} {n m:ByteArray} {i d:Int} {s:List Ex}:0≤k→k≤1099511627776→n.size≤65536→m.size≤65536→-500000000000≤i→i≤500000000000→0≤d→d≤1099511627776→s.length≤3→(∀y∈s,EncOk y)→EncOk (.mk k n m i d s)
structure DecOk (d:ODecl):Prop where
 id0:0≤d.id
 id1:d.id≤1099511627776
 k0:0≤d.kind
 k1:d.kind≤1099511627776
 nlen:d.names.length≤3
 names:∀s∈d.names,s.size≤65536
 body:EncOk d.body
 depth:depthN d.body≤40
 nodes:nodesN d.body≤400
structure EdiOk (e:OEdit):Prop where
 k0:0≤e.kind
 k1:e.kind≤1099511627776
 pack:e.pack.size≤65536
 text:e.text.size≤65536
 olen:e.old.length≤1
 flen:e.fresh.length≤1
 old:∀d∈e.old,DecOk d
 fresh:∀d∈e.fresh,DecOk d
theorem zPv (l:List Ex):encL l=l.flatMap encX:=by
 induction l with
 | nil=>rfl
 | cons x r ih=>rw [encL,ih];rfl
theorem zBd (l:List UInt8):(⟨l.toArray⟩:ByteArray).size=l.length:=by
 show l.toArray.size=l.length
 exact List.size_toArray
end Go.Proofs.YtfkjfdbjhlmjcaaGreatDoor
namespace Go.Proofs.YtfkjfdbjhlmjcaaGreatDoor
open Go.RowKit Go.Shelf
theorem zRq {k:Int} {a b c:Nat} (h:shapeK k=some (a,b,c)):1≤k∧k≤15∧c≤3∧(b=0∨(b=1∧(k=1∨k=2∨k=5))∨(b=2∧k=14)):=by
 have key:∀(j:Int) (t:Nat×Nat×Nat) (r:Option (Nat×Nat×Nat)),(if k=j then some t else r)=some (a,b,c)→(k=j∧t=(a,b,c))∨r=some (a,b,c):=by
  intro j t r h;split at h
  ·rename_i e
   exact .inl ⟨e,Option.some.inj h⟩
  ·exact .inr h
 unfold shapeK at h
 have fin:∀{x y z:Nat},(x,y,z)=(a,b,c)→x=a∧y=b∧z=c:=fun e=>by injection e with e1 e2;injection e2 with e2 e3;exact ⟨e1,e2,e3⟩
 obtain ⟨h1,h2⟩|h:=key _ _ _ h
 ·have:=fin h2;omega
 obtain ⟨h1,h2⟩|h:=key _ _ _ h
 ·have:=fin h2;omega
 obtain ⟨h1,h2⟩|h:=key _ _ _ h
 ·have:=fin h2;omega
 obtain ⟨h1,h2⟩|h:=key _ _ _ h
 ·have:=fin h2;omega
 obtain ⟨h1,h2⟩|h:=key _ _ _ h
 ·have:=fin h2;omega
 obtain ⟨h1,h2⟩|h:=key _ _ _ h
 ·have:=fin h2;omega
 obtain ⟨h1,h2⟩|h:=key _ _ _ h
 ·have:=fin h2;omega
 obtain ⟨h1,h2⟩|h:=key _ _ _ h
 ·have:=fin h2;omega
 obtain ⟨h1,h2⟩|h:=key _ _ _ h
 ·have:=fin h2;omega
 obtain ⟨h1,h2⟩|h:=key _ _ _ h
 ·have:=fin h2;omega
 obtain ⟨h1,h2⟩|h:=key _ _ _ h
 ·have:=fin h2;omega
 obtain ⟨h1,h2⟩|h:=key _ _ _ h
 ·have:=fin h2;omega
 obtain ⟨h1,h2⟩|h:=key _ _ _ h
 ·have:=fin h2;omega
 obtain ⟨h1,h2⟩|h:=key _ _ _ h
 ·have:=fin h2;omega
 rcases key _ _ _ h with ⟨h1,h2⟩|h
 ·have:=fin h2;omega
 ·cases h
theorem zZb {x:Ex} (h:nodeErr x=0):1≤x.kind∧x.kind≤15∧-999999999≤x.num∧x.num≤999999999∧0≤x.den∧x.den≤999999∧x.subs.length≤3:=by
 unfold nodeErr at h
 cases hs:shapeK x.kind with
 | none=>rw [hs] at h;exact absurd (show (9:Int)=0 from h) (by decide)
 | some t=>
  obtain ⟨a,b,c⟩:=t;rw [hs] at h;simp only at h
  split at h
  ·exact absurd h (by decide)
  rename_i ha
  split at h
  ·exact absurd h (by decide)
  split at h
  ·exact absurd h (by decide)
  split at h
  case isFalse=>exact absurd h (by decide)
  rename_i hn
  obtain ⟨h1,h2,h3,h4⟩:=zRq hs;unfold argBad at ha;simp only [Bool.or_eq_true,Bool.and_eq_true,decide_eq_true_eq,bne_iff_ne,ne_eq,not_or,not_and,Bool.not_eq_true',Bool.not_eq_false,Classical.not_not] at ha
  obtain ⟨⟨⟨⟨-,-⟩,hb1⟩,hb2⟩,hc⟩:=ha;unfold numsOk at hn;refine ⟨h1,h2,?_⟩
  rcases h4 with h4|⟨h4,h5⟩|⟨h4,h5⟩
  ·have e1:=hb1 (by omega)
   have e2:=hb2 (by omega);rw [e1,e2,hc];omega
  ·have e2:=hb2 (by omega)
   rw [e2,hc]
   rcases h5 with h5|h5|h5
   ·rw [if_pos h5] at hn;simp only [Bool.and_eq_true,decide_eq_true_eq] at hn;omega
   ·rw [if_neg (by omega),if_pos h5] at hn;simp only [Bool.or_eq_true,beq_iff_eq] at hn;omega
   ·rw [if_neg (by omega),if_neg (by omega),if_pos h5] at hn;simp only [Bool.and_eq_true,decide_eq_true_eq] at hn;omega
  ·rw [if_neg (by omega),if_neg (by omega),if_neg (by omega),if_pos h5] at hn
   simp only [Bool.and_eq_true,decide_eq_true_eq] at hn
   rw [hc];omega
theorem zTb (x:Ex):ValX x→SmX 40000 x→EncOk x:=by
 refine Ex.ind (P:=fun x=>ValX x→SmX 40000 x→EncOk x) (fun x ih hv hs=>?_) x;have hn:=zZb hv.node;have h1:=hs.name;have h2:=hs.more;have h3:=hs.subs;have h4:∀y∈x.subs,ValX y:=fun y hy=>hv.sub hy;clear hv hs
 cases x with
 | mk k n m i d s=>
  have e1:(Ex.mk k n m i d s).kind=k:=rfl;have e2:(Ex.mk k n m i d s).num=i:=rfl;have e3:(Ex.mk k n m i d s).den=d:=rfl;have e4:(Ex.mk k n m i d s).subs=s:=rfl;have e5:(Ex.mk k n m i d s).name=n:=rfl;have e6:(Ex.mk k n m i d s).more=m:=rfl;rw [e1,e2,e3,e4] at hn;rw [e5] at h1;rw [e6] at h2;rw [e4] at h3 h4 ih;exact .mk (by omega) (by omega) (by omega) (by omega) (by omega) (by omega) (by omega) (by omega) hn.2.2.2.2.2.2 (fun y hy=>ih y hy (h4 y hy) (h3 y hy))
theorem zLf {x:Ex} (h:exprErr x=0):nodesN x≤400∧depthN x≤40:=by
 rw [exprErr] at h;split at h
 ·omega
 ·omega
theorem zMp:EncOk exZ:=.mk (by omega) (by omega) (by decide) (by decide) (by omega) (by omega) (by omega) (by omega) (by decide) (fun y hy=>by cases hy)
theorem yCb {k:Int} {d:ODecl} {label:ByteArray} (hp:7≤k→d=partD k d) (hk:k≤9) (h:declErr label (compD k d)=0) (hs:SmD d):DecOk d:=by
  have hid:(compD k d).id=d.id:=rfl
  have h1:=h
  unfold declErr at h1
  rw [hid] at h1
  split at h1
  · exact absurd h1 (by decide)
  rename_i hi
  split at h1
  case isFalse hr=>exact absurd h1 hr
  rename_i hr
  unfold rDeclErr at hr
  rw [hid] at hr
  split at hr
  · exact absurd hr (by decide)
  rename_i hi2
  split at hr
  · exact absurd hr (by decide)
  rename_i hkk
  split at hr
  case isFalse hn=>exact absurd hr hn
  rename_i hn
  have hnl:(compD k d).names.length≤3:=by
    unfold namesErr at hn
    split at hn
    · exact absurd hn (by decide)
    · omega
  have hb:=zLf hr
  have hv:=zFx hr
  have hz:nodesN exZ=1∧depthN exZ=1:=⟨rfl,rfl⟩
  by_cases h7:7≤k
  · have hd:=hp h7
    rcases (show k=7∨k=8∨k=9 by omega) with rfl|rfl|rfl
    · have e1:d.kind=0:=by rw [hd];rfl
      have e2:d.body=exZ:=by rw [hd];rfl
      exact ⟨by omega,by omega,by omega,by omega,hnl,fun s hm=>Nat.le_trans (hs.names s hm) (by omega),by rw [e2];exact zMp,by rw [e2,hz.2];omega,by rw [e2,hz.1];omega⟩
    · have e1:d.kind=0:=by rw [hd];rfl
      have e2:d.names=[]:=by rw [hd];rfl
      exact ⟨by omega,by omega,by omega,by omega,by rw [e2];exact Nat.zero_le _,fun s hm=>Nat.le_trans (hs.names s hm) (by omega),zTb _ hv hs.body,hb.2,hb.1⟩
    · have e1:d.names=[]:=by rw [hd];rfl
      have e2:d.body=exZ:=by rw [hd];rfl
      have e3:(compD 9 d).kind=d.kind:=rfl
      rw [e3] at hkk
      exact ⟨by omega,by omega,by omega,by omega,by rw [e1];exact Nat.zero_le _,fun s hm=>Nat.le_trans (hs.names s hm) (by omega),by rw [e2];exact zMp,by rw [e2,hz.2];omega,by rw [e2,hz.1];omega⟩
  · rw [zOy (by omega)] at hkk hnl hb hv
    exact ⟨by omega,by omega,by omega,by omega,hnl,fun s hm=>Nat.le_trans (hs.names s hm) (by omega),zTb _ hv hs.body,hb.2,hb.1⟩
theorem zZc {l:List ODecl} (h:l.length≤1) {d:ODecl} (hd:d∈l):d=dAt l 0:=by
 match l,h with
 | [],_=>cases hd
 | [x],_=>rw [List.mem_singleton.1 hd];rfl
theorem zTc {e:OEdit} (h:editErr e=0) (hs:SmE e):EdiOk e:=by
  obtain ⟨hk,hf,ht⟩:=zIj.1 h
  obtain ⟨-,hol,hfl⟩:=zBn h
  have ho:e.old.length≤1:=by rw [hol];unfold oldsN;split<;>omega
  have hn:e.fresh.length≤1:=by rw [hfl];unfold newsN;split<;>omega
  have key:∀d,d∈e.old++e.fresh→SmD d→DecOk d:=by
    intro d hd hsd
    by_cases h5:5≤e.kind
    · refine yCb (k:=e.kind) (label:=e.pack) (fun h7=>?_) hk.2 ?_ hsd
      · have h8:=yEo h h7
        rcases List.mem_append.1 hd with hd|hd
        · rw [zZc ho hd];exact h8.1
        · rw [zZc hn hd];exact h8.2.1
      · have hm:=ht ⟨e.pack,[],[compD e.kind d]⟩ (by
          unfold testsOf
          rw [if_neg (by omega),if_neg (by omega)]
          exact List.mem_map.2 ⟨d,hd,rfl⟩)
        have hm1:=(zKh.1 hm).decl
        exact hm1 _ (List.mem_singleton.2 rfl)
    · obtain ⟨e1,e2⟩:=zPl h h5
      rw [e1,e2] at hd
      cases hd
  exact ⟨by omega,by omega,Nat.le_trans hs.pack (by omega),Nat.le_trans hs.text (by omega),ho,hn,fun d hd=>key d (List.mem_append_left _ hd) (hs.old d hd).1,fun d hd=>key d (List.mem_append_right _ hd) (hs.fresh d hd).1⟩
end Go.Proofs.YtfkjfdbjhlmjcaaGreatDoor
