/- The encoding of edits, plainly: -/
import Derived.Test.YtfkjfdbjhlmjcaaGreatDoorXBI
namespace Go.Proofs.YtfkjfdbjhlmjcaaGreatDoor
def digs:Nat→Nat→List UInt8
  | 0,n=>[UInt8.ofNat n]
  | f+1,n=>if n<128 then [UInt8.ofNat n] else UInt8.ofNat (n % 128+128)::digs f (n / 128)
def intB (n:Nat):List UInt8:=digs 8 n
def putI (n:Int):List UInt8:=if 0≤n∧n≤1099511627776 then intB n.toNat else []
def putT (s:ByteArray):List UInt8:=if s.size≤65536 then intB s.size++s.data.toList else []
def putB (b:Bool):List UInt8:=putI (if b then 1 else 0)
def twice (n:Int):Int:=if n<0 then 1 - 2 * n else 2 * n
mutual
def encX:Ex→List UInt8
 | .mk k n m i d s=>putI k++(putT n++(putT m++(putI (twice i)++(putI d++(putI s.length++encL s)))))
def encL:List Ex→List UInt8
 | []=>[]
 | x::r=>encX x++encL r
end
theorem zOl (x:Ex):encX x=putI x.kind++(putT x.name++(putT x.more++(putI (twice x.num)++(putI x.den++(putI x.subs.length++encL x.subs))))):=by cases x;rw [encX];rfl
def encN (l:List ByteArray):List UInt8:=l.flatMap putT
def encD (d:ODecl):List UInt8:=putI d.id++(putI d.kind++(putB d.pub++(putB d.doubt++(putI d.names.length++(encN d.names++encX d.body)))))
def encDs (l:List ODecl):List UInt8:=putI l.length++l.flatMap encD
def encE (e:OEdit):List UInt8:=putI e.kind++(putT e.pack++(putT e.text++(encDs e.old++encDs e.fresh)))
def getF:Nat→Nat→Nat→Nat→List UInt8→Nat×Nat×Int
 | 0,_,_,_,_=>(0,0,13)
 | _+1,_,_,_,[]=>(0,0,12)
 | f+1,i,v,u,c::r=>if 128≤c.toNat then getF f (i+1) (v+(c.toNat - 128) * u) (u * 128) r else if (c.toNat=0∧0<i)∨1099511627776<v+c.toNat * u then (0,0,13) else (v+c.toNat * u,i+1,0)
def getI (s:List UInt8):Nat×Nat×Int:=getF 6 0 0 1 s
def getT (s:List UInt8):List UInt8×Nat×Int:=
 if (getI s).2.2=0 then (if 65536<(getI s).1 then ([],0,13) else if s.length<(getI s).2.1+(getI s).1 then ([],0,12) else ((s.drop (getI s).2.1).take (getI s).1,(getI s).2.1+(getI s).1,0)) else ([],0,(getI s).2.2)
theorem yCm:∀(f g i v u m:Nat) (t:List UInt8),1≤f→m<128 ^ f→m<128 ^ (g+1)→v+m * u≤1099511627776→(m=0→i=0) →
  getF f i v u (digs g m++t)=(v+m * u,i+(digs g m).length,0):=by
 intro f
 induction f with
 | zero=>intro g i v u m t h;omega
 | succ f ih=>
  intro g i v u m t _ hm hg hv h0
  have small:∀x:List UInt8,m<128→digs g m=[UInt8.ofNat m]→getF (f+1) i v u (digs g m++t)=(v+m * u,i+(digs g m).length,0):=by
   intro _ hs e;have ec:(UInt8.ofNat m).toNat=m:=by rw [UInt8.toNat_ofNat'];omega
   rw [e,List.cons_append,getF,ec,if_neg (by omega),if_neg (by omega)];rfl
  cases g with
  | zero=>exact small [] (by simpa using hg) rfl
  | succ g=>
   by_cases hs:m<128
   ·exact small [] hs (by rw [digs,if_pos hs])
   ·have ec:(UInt8.ofNat (m % 128+128)).toNat=m % 128+128:=by rw [UInt8.toNat_ofNat'];omega
    have hf:1≤f:=by
     cases f with
     | zero=>simp at hm;omega
     | succ f=>omega
    have e1:v+(m % 128) * u+(m / 128) * (u * 128)=v+m * u:=by
     have:m * u=(m % 128) * u+(m / 128) * (u * 128):=by
      rw [Nat.mul_comm u 128,←Nat.mul_assoc,←Nat.add_mul]
      congr 1
      omega
     omega
    rw [digs,if_neg hs,List.cons_append,getF,ec,if_pos (by omega),show m % 128+128 - 128=m % 128 by omega,ih g (i+1) _ _ (m / 128) t hf (by rw [Nat.div_lt_iff_lt_mul (by omega)];rwa [Nat.pow_succ] at hm) (by rw [Nat.div_lt_iff_lt_mul (by omega)];rwa [Nat.pow_succ 128 (g+1)] at hg) (by omega) (by omega),e1,List.length_cons]
    congr 2
    omega
theorem zUg {n:Nat} (hn:n≤1099511627776) (t:List UInt8):getI (intB n++t)=(n,(intB n).length,0):=by
 unfold getI intB;rw [yCm 6 8 0 0 1 n t (by omega) (by omega) (by omega) (by omega) (fun _=>rfl)];simp
theorem zQs {n:Int} (h0:0≤n) (h1:n≤1099511627776) (t:List UInt8):getI (putI n++t)=(n.toNat,(putI n).length,0):=by
 unfold putI;rw [if_pos ⟨h0,h1⟩];exact zUg (by omega) t
theorem zCy (s:ByteArray):s.data.toList.length=s.size:=by rw [Array.length_toList];rfl
theorem zUh {s:ByteArray} (hs:s.size≤65536) (t:List UInt8):getT (putT s++t)=(s.data.toList,(putT s).length,0):=by
 unfold putT getT;rw [if_pos hs,List.append_assoc,zUg (by omega)];have hl:=zCy s;simp only [if_true]
 rw [if_neg (by omega),if_neg (by simp only [List.length_append];omega),List.drop_left,←hl,List.take_left,List.length_append]
theorem zEy:∀(f i v u:Nat) (s:List UInt8),(getF f i v u s).1≤1099511627776∧((getF f i v u s).2.2=0→i<(getF f i v u s).2.1∧(getF f i v u s).2.1≤i+s.length)∧((getF f i v u s).2.2≠0→(getF f i v u s).1=0∧(getF f i v u s).2.1=0)
  | 0,_,_,_,_=>⟨by simp [getF],fun h=>by simp [getF] at h,fun _=>⟨rfl,rfl⟩⟩
  | _+1,_,_,_,[]=>⟨by simp [getF],fun h=>by simp [getF] at h,fun _=>⟨rfl,rfl⟩⟩
  | f+1,i,v,u,c::r=>by
    rw [getF]
    split
    · obtain ⟨h1,h2,h3⟩:=zEy f (i+1) (v+(c.toNat - 128) * u) (u * 128) r
      exact ⟨h1,fun h=>by have:=h2 h;rw [List.length_cons];omega,h3⟩
    · split
      · exact ⟨by simp,fun h=>by simp at h,fun _=>⟨rfl,rfl⟩⟩
      · exact ⟨by simp only;omega,fun _=>by simp only [List.length_cons];omega,fun h=>absurd rfl h⟩
theorem zKu (s:List UInt8):(getI s).1≤1099511627776:=(zEy 6 0 0 1 s).1
theorem zOm {s:List UInt8} (h:(getI s).2.2=0):1≤(getI s).2.1∧(getI s).2.1≤s.length:=by have:=(zEy 6 0 0 1 s).2.1 h;unfold getI at *;omega
theorem yCn {s:List UInt8} (h:(getI s).2.2≠0):(getI s).1=0∧(getI s).2.1=0:=(zEy 6 0 0 1 s).2.2 h
theorem zHn (s:List UInt8):(getI s).2.1≤s.length:=by
 by_cases h:(getI s).2.2=0
 ·exact (zOm h).2
 ·rw [(yCn h).2];omega
theorem zOn {s:List UInt8} (h:(getT s).2.2=0):1≤(getT s).2.1∧(getT s).2.1≤s.length∧(getT s).1.length≤s.length∧(getT s).1.length≤65536:=by
 unfold getT at h ⊢
 by_cases h0:(getI s).2.2=0
 ·have h1:=zOm h0
  rw [if_pos h0] at h ⊢
  by_cases h2:65536<(getI s).1
  ·rw [if_pos h2] at h;simp at h
  ·rw [if_neg h2] at h ⊢
   by_cases h3:s.length<(getI s).2.1+(getI s).1
   ·rw [if_pos h3] at h;simp at h
   ·rw [if_neg h3]
    simp only [List.length_take,List.length_drop]
    omega
 ·rw [if_neg h0] at h;exact absurd h h0
theorem zUi {s:List UInt8} (h:(getT s).2.2≠0):(getT s).1=[]∧(getT s).2.1=0:=by
 unfold getT at h ⊢
 by_cases h0:(getI s).2.2=0
 ·rw [if_pos h0] at h ⊢
  by_cases h2:65536<(getI s).1
  ·rw [if_pos h2];exact ⟨rfl,rfl⟩
  ·rw [if_neg h2] at h ⊢
   by_cases h3:s.length<(getI s).2.1+(getI s).1
   ·rw [if_pos h3];exact ⟨rfl,rfl⟩
   ·rw [if_neg h3] at h;exact absurd rfl h
 ·rw [if_neg h0];exact ⟨rfl,rfl⟩
theorem zQt (s:List UInt8):(getT s).2.1≤s.length:=by
 by_cases h:(getT s).2.2=0
 ·exact (zOn h).2.1
 ·rw [(zUi h).2];omega
inductive EncOk:Ex→Prop
 | mk {k:Int} {n m:ByteArray} {i d:Int} {s:List Ex}:0≤k→k≤1099511627776→n.size≤65536→m.size≤65536→-500000000000≤i→i≤500000000000→0≤d→d≤1099511627776→s.length≤3→(∀y∈s,EncOk y)→EncOk (.mk k n m i d s)
structure DecOk (d:ODecl):Prop where
 id0:0≤d.id
 id1:d.id≤1099511627776
 k0:0≤d.kind
 k1:d.kind≤1099511627776
 nlen:d.names.length≤3
 names:∀s∈d.names,s.size≤65536
 body:EncOk d.body
 depth:depthN d.body≤40
 nodes:nodesN d.body≤400
structure EdiOk (e:OEdit):Prop where
 k0:0≤e.kind
 k1:e.kind≤1099511627776
 pack:e.pack.size≤65536
 text:e.text.size≤65536
 olen:e.old.length≤1
 flen:e.fresh.length≤1
 old:∀d∈e.old,DecOk d
 fresh:∀d∈e.fresh,DecOk d
theorem zKv {i:Int} (h0:-500000000000≤i) (h1:i≤500000000000):0≤twice i∧twice i≤1099511627776:=by
 unfold twice;split<;>omega
def untwice (n:Int):Int:=if n % 2=1 then -(n / 2) else n / 2
theorem zHo (i:Int):untwice (twice i)=i:=by
 unfold untwice twice;split<;>split<;>omega
abbrev St:=List UInt8×Bool
def rdN (most:Nat) (s:St):Int×St:=if s.2=true∨(getI s.1).2.2≠0∨most<(getI s.1).1 then (0,(s.1,true)) else (((getI s.1).1:Int),(s.1.drop (getI s.1).2.1,false))
def rdT (s:St):ByteArray×St:=if s.2=true∨(getT s.1).2.2≠0 then (⟨#[]⟩,(s.1,true)) else (⟨(getT s.1).1.toArray⟩,(s.1.drop (getT s.1).2.1,false))
def rdL {A:Type} (f:St→A×St):Nat→St→List A×St
  | 0,s=>([],s)
  | c+1,s=>if s.2=true then ([],s) else ((f s).1::(rdL f c (f s).2).1,(rdL f c (f s).2).2)
def rdX:Nat→St→Ex×St
 | 0,s=>(.mk 0 ⟨#[]⟩ ⟨#[]⟩ 0 0 [],(s.1,true))
 | d+1,s=>
  let a:=rdN 1099511627776 s
  let b:=rdT a.2
  let c:=rdT b.2
  let n:=rdN 1099511627776 c.2
  let g:=rdN 1099511627776 n.2
  let k:=rdN 3 g.2
  let l:=rdL (rdX d) k.1.toNat k.2
  (.mk a.1 b.1 c.1 (untwice n.1) g.1 l.1,l.2)
def rdD (s:St):ODecl×St:=
 let a:=rdN 1099511627776 s
 let b:=rdN 1099511627776 a.2
 let c:=rdN 1 b.2
 let d:=rdN 1 c.2
 let n:=rdN 3 d.2
 let l:=rdL rdT n.1.toNat n.2
 let x:=rdX 40 l.2
 (⟨a.1,b.1,c.1==1,l.1,d.1==1,x.1⟩,x.2)
def rdDs (s:St):List ODecl×St:=rdL rdD (rdN 1 s).1.toNat (rdN 1 s).2
def rdE (s:List UInt8):OEdit×St:=
 let a:=rdN 1099511627776 (s,false)
 let b:=rdT a.2
 let c:=rdT b.2
 let d:=rdDs c.2
 let f:=rdDs d.2
 (⟨a.1,b.1,c.1,d.1,f.1⟩,f.2)
theorem zDr {n:Int} {most:Nat} (h0:0≤n) (h1:n≤most) (h2:n≤1099511627776) (t:List UInt8):rdN most (putI n++t,false)=(n,(t,false)):=by
 unfold rdN;rw [zQs h0 h2,if_neg (by simp;omega)];simp only [List.drop_left]
 congr 1
 omega
theorem zKw {s:ByteArray} (hs:s.size≤65536) (t:List UInt8):rdT (putT s++t,false)=(s,(t,false)):=by
 unfold rdT;rw [zUh hs,if_neg (by simp)];simp only [List.drop_left]
theorem zOo {A:Type} {f:St→A×St} {enc:A→List UInt8}:∀(l:List A) (t:List UInt8),(∀x∈l,∀t,f (enc x++t,false)=(x,(t,false)))→rdL f l.length (l.flatMap enc++t,false)=(l,(t,false))
 | [],t,_=>rfl
 | x::r,t,h=>by
  rw [List.length_cons,rdL,if_neg (by simp),List.flatMap_cons,List.append_assoc,h x (List.mem_cons_self ..),zOo r t (fun y hy=>h y (List.mem_cons_of_mem _ hy))]
theorem zKx (l:List Ex):encL l=l.flatMap encX:=by
 induction l with
 | nil=>rfl
 | cons x r ih=>rw [encL,ih];rfl
theorem zMy {x:Ex} {l:List Ex} (h:x∈l):depthN x≤depthL l:=by
 induction l with
 | nil=>cases h
 | cons y r ih=>
  rw [depthL]
  rcases List.mem_cons.1 h with rfl|h
  ·omega
  ·have:=ih h;omega
theorem zZy:∀(d:Nat) (x:Ex),depthN x≤d→EncOk x→∀t,rdX d (encX x++t,false)=(x,(t,false))
 | 0,x,h,_,_=>by rw [zCr] at h;omega
 | d+1,x,h,hx,t=>by
  cases hx with
  | @mk k n m i e s h1 h2 h3 h4 h5 h6 h7 h8 h9 h10=>
   rw [zCr] at h;have hd:depthL s≤d:=by have:depthL (Ex.mk k n m i e s).subs=depthL s:=rfl;omega
   have ht:=zKv h5 h6;rw [encX];simp only [List.append_assoc]
   unfold rdX;rw [zDr h1 (by omega) h2];simp only
   rw [zKw h3];simp only
   rw [zKw h4];simp only
   rw [zDr ht.1 (by omega) ht.2];simp only
   rw [zDr h7 (by omega) h8];simp only
   rw [zDr (n:=(s.length:Int)) (by omega) (by omega) (by omega)];simp only [Int.toNat_natCast]
   rw [zKx,zOo s t (fun y hy t=>zZy d y (Nat.le_trans (zMy hy) hd) (h10 y hy) t),zHo]
theorem yEm (d:ODecl) (h:DecOk d) (t:List UInt8):rdD (encD d++t,false)=(d,(t,false)):=by
 have hb:∀(b:Bool) (t:List UInt8),rdN 1 (putB b++t,false)=((if b then 1 else 0),(t,false)):=by
  intro b t;unfold putB
  cases b
  ·exact zDr (by simp) (by simp) (by simp) t
  ·exact zDr (by simp) (by simp) (by simp) t
 unfold encD rdD;simp only [List.append_assoc]
 rw [zDr h.id0 (by have:=h.id1;omega) h.id1];simp only
 rw [zDr h.k0 (by have:=h.k1;omega) h.k1];simp only
 rw [hb];simp only
 rw [hb];simp only
 rw [zDr (n:=(d.names.length:Int)) (by omega) (by have:=h.nlen;omega) (by have:=h.nlen;omega)];simp only [Int.toNat_natCast]
 unfold encN;rw [zOo d.names _ (fun y hy t=>zKw (h.names y hy) t)];simp only
 rw [zZy 40 _ h.depth h.body];obtain ⟨i,k,p,n,b,x⟩:=d
 cases p<;>cases b<;>rfl
theorem zUj (l:List ODecl) (hl:l.length≤1) (h:∀d∈l,DecOk d) (t:List UInt8):rdDs (encDs l++t,false)=(l,(t,false)):=by
 unfold encDs rdDs;rw [List.append_assoc,zDr (n:=(l.length:Int)) (by omega) (by omega) (by omega)];simp only [Int.toNat_natCast]
 exact zOo l t (fun y hy t=>yEm y (h y hy) t)
theorem yEn (e:OEdit) (h:EdiOk e):rdE (encE e)=(e,([],false)):=by
 unfold encE rdE;rw [zDr h.k0 (by have:=h.k1;omega) h.k1];simp only
 rw [zKw h.pack];simp only
 rw [zKw h.text];simp only
 rw [zUj e.old h.olen h.old];simp only
 rw [show encDs e.fresh=encDs e.fresh++[] from (List.append_nil _).symm,zUj e.fresh h.flen h.fresh]
structure Sq where
 rest:List UInt8
 left:Nat
 bad:Bool
def qdN (s:Sq):Int×Sq:=(((getI s.rest).1:Int),⟨s.rest.drop (getI s.rest).2.1,s.left,s.bad || (getI s.rest).2.2 != 0⟩)
def qdT (s:Sq):ByteArray×Sq:=(⟨(getT s.rest).1.toArray⟩,⟨s.rest.drop (getT s.rest).2.1,s.left,s.bad || (getT s.rest).2.2 != 0⟩)
def qdL {A:Type} (f:Sq→A×Sq):Nat→Sq→List A×Sq
 | 0,s=>([],s)
 | c+1,s=>if s.bad=true then ([],s) else ((f s).1::(qdL f c (f s).2).1,(qdL f c (f s).2).2)
def qdX:Nat→Sq→Ex×Sq
 | 0,s=>(.mk 0 ⟨#[]⟩ ⟨#[]⟩ 0 0 [],{ s with bad:=true })
 | d+1,s=>
  if s.bad=true∨s.left=0 then (.mk 0 ⟨#[]⟩ ⟨#[]⟩ 0 0 [],{ s with bad:=true }) else
  let a:=qdN { s with left:=s.left - 1 }
  let b:=qdT a.2
  let c:=qdT b.2
  let n:=qdN c.2
  let g:=qdN n.2
  let k:=qdN g.2
  let l:=qdL (qdX d) k.1.toNat k.2
  (.mk a.1 b.1 c.1 (untwice n.1) g.1 l.1,l.2)
def qdD (s:Sq):ODecl×Sq:=
 let a:=qdN s
 let b:=qdN a.2
 let c:=qdN b.2
 let d:=qdN c.2
 let n:=qdN d.2
 let l:=qdL qdT n.1.toNat n.2
 let x:=qdX 41 { l.2 with left:=400 }
 (⟨a.1,b.1,c.1==1,l.1,d.1==1,x.1⟩,x.2)
def qdDs (s:Sq):List ODecl×Sq:=if (qdN s).1=0∨(qdN s).2.bad=true then ([],(qdN s).2) else ([(qdD (qdN s).2).1],(qdD (qdN s).2).2)
def qdE (s:List UInt8):OEdit×Sq:=
 let a:=qdN ⟨s,0,false⟩
 let b:=qdT a.2
 let c:=qdT b.2
 let d:=qdDs c.2
 let f:=qdDs d.2
 (⟨a.1,b.1,c.1,d.1,f.1⟩,f.2)
theorem zDs {n:Int} (h0:0≤n) (h2:n≤1099511627776) (t:List UInt8) (k:Nat):qdN ⟨putI n++t,k,false⟩=(n,⟨t,k,false⟩):=by
 unfold qdN;rw [zQs h0 h2];simp only [List.drop_left]
 congr 1
 omega
theorem zKy {s:ByteArray} (hs:s.size≤65536) (t:List UInt8) (k:Nat):qdT ⟨putT s++t,k,false⟩=(s,⟨t,k,false⟩):=by
 unfold qdT;rw [zUh hs];simp only [List.drop_left]
 rfl
theorem zQu:∀(l:List ByteArray) (t:List UInt8) (k:Nat),(∀s∈l,s.size≤65536)→qdL qdT l.length ⟨l.flatMap putT++t,k,false⟩=(l,⟨t,k,false⟩)
 | [],t,k,_=>rfl
 | x::r,t,k,h=>by
  rw [List.length_cons,qdL,if_neg (by simp),List.flatMap_cons,List.append_assoc,zKy (h x (List.mem_cons_self ..)),zQu r t k (fun y hy=>h y (List.mem_cons_of_mem _ hy))]
theorem zQv {d:Nat}:∀(l:List Ex) (t:List UInt8) (k:Nat),(∀x∈l,∀t k,nodesN x≤k→qdX d ⟨encX x++t,k,false⟩=(x,⟨t,k - nodesN x,false⟩))→nodesL l≤k→qdL (qdX d) l.length ⟨encL l++t,k,false⟩=(l,⟨t,k - nodesL l,false⟩)
 | [],t,k,_,_=>rfl
 | x::r,t,k,h,hk=>by
  rw [nodesL] at hk;rw [List.length_cons,qdL,if_neg (by simp),encL,List.append_assoc,h x (List.mem_cons_self ..) _ _ (by omega),zQv r t _ (fun y hy=>h y (List.mem_cons_of_mem _ hy)) (by omega),nodesL,Nat.sub_sub]
theorem zZz:∀(d:Nat) (x:Ex),depthN x≤d→EncOk x→∀t k,nodesN x≤k→qdX d ⟨encX x++t,k,false⟩=(x,⟨t,k - nodesN x,false⟩)
 | 0,x,h,_,_,_,_=>by rw [zCr] at h;omega
 | d+1,x,h,hx,t,q,hq=>by
  cases hx with
  | @mk k n m i e s h1 h2 h3 h4 h5 h6 h7 h8 h9 h10=>
   rw [zCr] at h;have hd:depthL s≤d:=by have:depthL (Ex.mk k n m i e s).subs=depthL s:=rfl;omega
   have ht:=zKv h5 h6;rw [nodesN] at hq;rw [encX];simp only [List.append_assoc]
   unfold qdX;rw [if_neg (by simp;omega)];simp only
   rw [zDs h1 h2];simp only
   rw [zKy h3];simp only
   rw [zKy h4];simp only
   rw [zDs ht.1 ht.2];simp only
   rw [zDs h7 h8];simp only
   rw [zDs (n:=(s.length:Int)) (by omega) (by omega)];simp only [Int.toNat_natCast]
   rw [zQv s t _ (fun y hy t k hk=>zZz d y (Nat.le_trans (zMy hy) hd) (h10 y hy) t k hk) (by omega),zHo,nodesN,Nat.sub_sub]
theorem yEo (d:ODecl) (h:DecOk d) (t:List UInt8) (k:Nat):∃k',qdD ⟨encD d++t,k,false⟩=(d,⟨t,k',false⟩):=by
 have hb:∀(b:Bool) (t:List UInt8),qdN ⟨putB b++t,k,false⟩=((if b then 1 else 0),⟨t,k,false⟩):=by
  intro b t;unfold putB
  cases b
  ·exact zDs (by simp) (by simp) t k
  ·exact zDs (by simp) (by simp) t k
 refine ⟨400 - nodesN d.body,?_⟩;unfold encD qdD;simp only [List.append_assoc]
 rw [zDs h.id0 h.id1];simp only
 rw [zDs h.k0 h.k1];simp only
 rw [hb];simp only
 rw [hb];simp only
 rw [zDs (n:=(d.names.length:Int)) (by omega) (by have:=h.nlen;omega)];simp only [Int.toNat_natCast]
 unfold encN;rw [zQu d.names _ _ h.names];simp only
 rw [zZz 41 _ (by have:=h.depth;omega) h.body _ _ h.nodes];obtain ⟨i,k,p,n,b,x⟩:=d
 cases p<;>cases b<;>rfl
theorem zUk (l:List ODecl) (hl:l.length≤1) (h:∀d∈l,DecOk d) (t:List UInt8) (k:Nat):∃k',qdDs ⟨encDs l++t,k,false⟩=(l,⟨t,k',false⟩):=by
 unfold encDs qdDs;rw [List.append_assoc,zDs (n:=(l.length:Int)) (by omega) (by omega)]
 match l,hl with
 | [],_=>exact ⟨k,by simp⟩
 | [d],_=>
  obtain ⟨k',e⟩:=yEo d (h d (List.mem_cons_self ..)) t k;refine ⟨k',?_⟩;have:([d]:List ODecl).flatMap encD=encD d:=by simp
  rw [this,e];simp
theorem yEp (e:OEdit) (h:EdiOk e):∃k,qdE (encE e)=(e,⟨[],k,false⟩):=by
 obtain ⟨k1,e1⟩:=zUk e.old h.olen h.old (encDs e.fresh++[]) 0;obtain ⟨k2,e2⟩:=zUk e.fresh h.flen h.fresh [] k1;refine ⟨k2,?_⟩;unfold encE qdE;rw [zDs h.k0 h.k1];simp only
 rw [zKy h.pack];simp only
 rw [zKy h.text];simp only
 rw [List.append_nil] at e1 e2;rw [e1];simp only
 rw [e2]
def inQ (n:Int):Prop:=-1099511627776≤n∧n≤1099511627776
theorem inQ.i {n:Int} (h:inQ n):inI n:=⟨by have:=h.1;omega,by have:=h.2;omega⟩
theorem zMz {n:Int} (h0:0≤n) (h1:n≤1099511627776):inQ (untwice n):=by unfold untwice inQ;split<;>omega
inductive RdX (B:Nat):Ex→Prop
  | mk {k:Int} {n m:ByteArray} {i d:Int} {s:List Ex}:n.size≤B→m.size≤B→inQ k→inQ i→inQ d→(∀y∈s,RdX B y)→RdX B (.mk k n m i d s)
theorem RdX.sm {B:Nat} {x:Ex} (h:RdX B x):SmX B x:=by
 induction h with
 | mk h1 h2 h3 h4 h5 _ ih=>exact .mk h1 h2 h3.i h4.i h5.i ih
theorem RdX.mono {B C:Nat} (hBC:B≤C) {x:Ex} (h:RdX B x):RdX C x:=by
 induction h with
 | mk h1 h2 h3 h4 h5 _ ih=>exact .mk (by omega) (by omega) h3 h4 h5 ih
theorem zAt (l:List UInt8):(⟨l.toArray⟩:ByteArray).size=l.length:=by
 show l.toArray.size=l.length
 exact List.size_toArray
theorem zCa (most:Nat) (s:St):0≤(rdN most s).1∧(rdN most s).1≤most∧(rdN most s).1≤1099511627776:=by
 unfold rdN;have:=zKu s.1;split
 ·exact ⟨by simp,by simp,by simp⟩
 ·rename_i h
  simp only [not_or] at h
  exact ⟨by simp,by simp only;omega,by simp only;omega⟩
theorem zAr (most:Nat) (s:St):(rdN most s).2.1.length≤s.1.length∧((rdN most s).2.2=false→(rdN most s).2.1.length+1≤s.1.length)∧(s.2=true→(rdN most s)=(0,(s.1,true)))∧((rdN most s).2.2=true→(rdN most s).1=0):=by
 unfold rdN;split
 ·refine ⟨Nat.le_refl _,fun h=>(by simp at h),fun _=>rfl,fun _=>rfl⟩
 ·rename_i h
  simp only [not_or] at h
  have h1:=zOm (s:=s.1) (Classical.not_not.1 h.2.1);refine ⟨by simp only [List.length_drop];omega,fun _=>by simp only [List.length_drop];omega,fun e=>absurd e h.1,fun e=>(by simp at e)⟩
theorem zBj (s:St):(rdT s).2.1.length≤s.1.length∧((rdT s).2.2=false→(rdT s).2.1.length+1≤s.1.length)∧(s.2=true→(rdT s)=(⟨#[]⟩,(s.1,true)))∧(rdT s).1.size≤s.1.length:=by
 unfold rdT;split
 ·exact ⟨Nat.le_refl _,fun h=>(by simp at h),fun _=>rfl,Nat.zero_le _⟩
 ·rename_i h
  simp only [not_or] at h
  have h1:=zOn (s:=s.1) (Classical.not_not.1 h.2);exact ⟨by simp only [List.length_drop];omega,fun _=>by simp only [List.length_drop];omega,fun e=>absurd e h.1,by rw [zAt];exact h1.2.2.1⟩
theorem zUl {A:Type} {f:St→A×St} {g:A→Nat} (hf:∀s,s.2=false→g (f s).1+(f s).2.1.length≤s.1.length+1∧((f s).2.2=false→g (f s).1+(f s).2.1.length≤s.1.length)) :
    ∀(c:Nat) (s:St),((rdL f c s).1.map g).sum+(rdL f c s).2.1.length≤s.1.length+1∧((rdL f c s).2.2=false→((rdL f c s).1.map g).sum+(rdL f c s).2.1.length≤s.1.length)
  | 0,s=>⟨by simp [rdL],fun _=>by simp [rdL]⟩
  | c+1,s=>by
    rw [rdL]
    split
    · exact ⟨by simp,fun _=>by simp⟩
    · rename_i h
      have h1:=hf s (by simpa using h)
      simp only [List.map_cons,List.sum_cons]
      by_cases hb:(f s).2.2=true
      · have e:rdL f c (f s).2=([],(f s).2):=by
          cases c with
          | zero=>rfl
          | succ c=>rw [rdL,if_pos hb]
        rw [e]
        simp only [List.map_nil,List.sum_nil]
        exact ⟨by have:=h1.1;omega,fun h2=>absurd hb (by rw [h2];simp)⟩
      · have h2:=h1.2 (by simpa using hb)
        have h3:=zUl hf c (f s).2
        exact ⟨by omega,fun h4=>by have:=h3.2 h4;omega⟩
theorem zOp {A:Type} {f:St→A×St} {P:A→Prop} {N:Nat} (hf:∀s,s.1.length≤N→P (f s).1) (hr:∀s,(f s).2.1.length≤s.1.length):∀(c:Nat) (s:St),s.1.length≤N→∀x∈(rdL f c s).1,P x
 | 0,s,_=>by intro x hx;rw [rdL] at hx;cases hx
 | c+1,s,hs=>by
  intro x hx;rw [rdL] at hx;split at hx
  ·cases hx
  ·rcases List.mem_cons.1 hx with rfl|hx
   ·exact hf s hs
   ·exact zOp hf hr c _ (Nat.le_trans (hr s) hs) x hx
theorem zJi {A:Type} {f:St→A×St} (hr:∀s,(f s).2.1.length≤s.1.length):∀(c:Nat) (s:St),(rdL f c s).2.1.length≤s.1.length
 | 0,s=>Nat.le_refl _
 | c+1,s=>by
  rw [rdL];split
  ·exact Nat.le_refl _
  ·exact Nat.le_trans (zJi hr c _) (hr s)
theorem zSt {A:Type} {f:St→A×St}:∀(c:Nat) (s:St),(rdL f c s).1.length≤c
 | 0,s=>Nat.le_refl _
 | c+1,s=>by
  rw [rdL];split
  ·exact Nat.zero_le _
  ·simp only [List.length_cons];have:=zSt (f:=f) c (f s).2;omega
theorem zN (l:List Ex):nodesL l=(l.map nodesN).sum:=by
 induction l with
 | nil=>rfl
 | cons x r ih=>rw [nodesL,ih,List.map_cons,List.sum_cons]
theorem zJj:∀(d:Nat) (s:St),(rdX d s).2.1.length≤s.1.length
 | 0,s=>Nat.le_refl _
 | d+1,s=>by
  unfold rdX;simp only
  refine Nat.le_trans (zJi (zJj d) _ _) ?_;exact Nat.le_trans (zAr _ _).1 (Nat.le_trans (zAr _ _).1 (Nat.le_trans (zAr _ _).1 (Nat.le_trans (zBj _).1 (Nat.le_trans (zBj _).1 (zAr _ _).1))))
theorem zQw:∀(d:Nat) (s:St),nodesN (rdX d s).1+(rdX d s).2.1.length≤s.1.length+1∧((rdX d s).2.2=false→nodesN (rdX d s).1+(rdX d s).2.1.length≤s.1.length)
 | 0,s=>by
  have e:nodesN (rdX 0 s).1=1:=rfl;rw [e];exact ⟨by show 1+s.1.length≤_;omega,fun h=>by cases h⟩
 | d+1,s=>by
  unfold rdX;simp only
  generalize hs1:(rdN 1099511627776 s).2=s1;have a1:=(zAr 1099511627776 s);rw [hs1] at a1;generalize hs2:(rdT s1).2=s2;have a2:=(zBj s1);rw [hs2] at a2;generalize hs3:(rdT s2).2=s3;have a3:=(zBj s2);rw [hs3] at a3;generalize hs4:(rdN 1099511627776 s3).2=s4;have a4:=(zAr 1099511627776 s3);rw [hs4] at a4;generalize hs5:(rdN 1099511627776 s4).2=s5;have a5:=(zAr 1099511627776 s4);rw [hs5] at a5;generalize hs6:(rdN 3 s5).2=s6;have a6:=(zAr 3 s5);rw [hs6] at a6;rw [nodesN,zN]
  have h:=zUl (f:=rdX d) (g:=nodesN) (fun s _=>zQw d s) (rdN 3 s5).1.toNat s6
  cases hb:s6.2 with
  | false=>
   have:=a6.2.1 hb;have l5:=a5.1;have l4:=a4.1;have l3:=a3.1;have l2:=a2.1;have l1:=a1.1;exact ⟨by omega,fun h1=>by have:=h.2 h1;omega⟩
  | true=>
   have e:rdL (rdX d) (rdN 3 s5).1.toNat s6=([],s6):=by
    cases (rdN 3 s5).1.toNat with
    | zero=>rfl
    | succ c=>rw [rdL,if_pos hb]
   rw [e];simp only [List.map_nil,List.sum_nil]
   have l6:=a6.1;have l5:=a5.1;have l4:=a4.1;have l3:=a3.1;have l2:=a2.1;have l1:=a1.1;exact ⟨by omega,fun h1=>absurd hb (by rw [h1];simp)⟩
theorem zQx {N:Nat}:∀(d:Nat) (s:St),s.1.length≤N→RdX N (rdX d s).1
 | 0,s,_=>.mk (Nat.zero_le _) (Nat.zero_le _) ⟨by omega,by omega⟩ ⟨by omega,by omega⟩ ⟨by omega,by omega⟩ (fun _ h=>by cases h)
 | d+1,s,hs=>by
  unfold rdX;simp only
  generalize hs1:(rdN 1099511627776 s).2=s1;have a1:=(zAr 1099511627776 s).1;rw [hs1] at a1;generalize hs2:(rdT s1).2=s2;have a2:=(zBj s1).1;rw [hs2] at a2;generalize hs3:(rdT s2).2=s3;have a3:=(zBj s2).1;rw [hs3] at a3;generalize hs4:(rdN 1099511627776 s3).2=s4;have a4:=(zAr 1099511627776 s3).1;rw [hs4] at a4;generalize hs5:(rdN 1099511627776 s4).2=s5;have a5:=(zAr 1099511627776 s4).1;rw [hs5] at a5;have a6:=(zAr 3 s5).1;have v0:=zCa 1099511627776 s;have v3:=zCa 1099511627776 s3
  have v4:=zCa 1099511627776 s4;refine .mk (Nat.le_trans (zBj s1).2.2.2 (by omega)) (Nat.le_trans (zBj s2).2.2.2 (by omega)) ⟨by omega,by omega⟩ (zMz v3.1 v3.2.2) ⟨by omega,by omega⟩ ?_;exact zOp (N:=N) (fun s hs=>zQx d s hs) (zJj d) _ _ (by omega)
structure RdD (N:Nat) (d:ODecl):Prop where
  id:inQ d.id
  kind:inQ d.kind
  names:∀s∈d.names,s.size≤N
  nlen:d.names.length≤N+3
  body:RdX N d.body
  nodes:nodesN d.body≤N+1
theorem zHp {N:Nat} (s:St) (hs:s.1.length≤N):RdD N (rdD s).1∧(rdD s).2.1.length≤s.1.length:=by
 unfold rdD;simp only
 generalize hs1:(rdN 1099511627776 s).2=s1;have a1:=(zAr 1099511627776 s).1;rw [hs1] at a1;generalize hs2:(rdN 1099511627776 s1).2=s2;have a2:=(zAr 1099511627776 s1).1;rw [hs2] at a2;generalize hs3:(rdN 1 s2).2=s3;have a3:=(zAr 1 s2).1;rw [hs3] at a3;generalize hs4:(rdN 1 s3).2=s4;have a4:=(zAr 1 s3).1;rw [hs4] at a4;generalize hs5:(rdN 3 s4).2=s5;have a5:=(zAr 3 s4).1;rw [hs5] at a5;have v0:=zCa 1099511627776 s;have v1:=zCa 1099511627776 s1;have v4:=zCa 3 s4
 have a6:=zJi (f:=rdT) (fun s=>(zBj s).1) (rdN 3 s4).1.toNat s5;have hl:=zSt (f:=rdT) (rdN 3 s4).1.toNat s5;have hx:=zQw 40 (rdL rdT (rdN 3 s4).1.toNat s5).2;have hm:=zJj 40 (rdL rdT (rdN 3 s4).1.toNat s5).2;refine ⟨⟨⟨by simp only;omega,by simp only;omega⟩,⟨by simp only;omega,by simp only;omega⟩,?_,by simp only;omega,zQx 40 _ (by omega),by simp only;omega⟩,by omega⟩;exact zOp (f:=rdT) (P:=fun x=>x.size≤N) (N:=N) (fun s hs=>Nat.le_trans (zBj s).2.2.2 hs) (fun s=>(zBj s).1) _ _ (by omega)
theorem zGb {N:Nat} (s:St) (hs:s.1.length≤N):(∀d∈(rdDs s).1,RdD N d)∧(rdDs s).1.length≤1∧(rdDs s).2.1.length≤s.1.length:=by
 unfold rdDs;have a1:=(zAr 1 s).1;have v:=zCa 1 s;refine ⟨zOp (N:=N) (fun s hs=>(zHp s hs).1) (fun s=>(zHp s (Nat.le_refl _)).2) _ _ (by omega),?_,?_⟩
 ·have:=zSt (f:=rdD) (rdN 1 s).1.toNat (rdN 1 s).2
  omega
 ·exact Nat.le_trans (zJi (fun s=>(zHp s (Nat.le_refl _)).2) _ _) a1
structure RdE (N:Nat) (e:OEdit):Prop where
 kind:inQ e.kind
 pack:e.pack.size≤N
 text:e.text.size≤N
 old:∀d∈e.old,RdD N d
 fresh:∀d∈e.fresh,RdD N d
 olen:e.old.length≤1
 flen:e.fresh.length≤1
theorem zQy {N:Nat} (s:List UInt8) (hs:s.length≤N):RdE N (rdE s).1:=by
 unfold rdE;simp only
 generalize hs1:(rdN 1099511627776 (s,false)).2=s1;have a1:=(zAr 1099511627776 (s,false)).1;rw [hs1] at a1;generalize hs2:(rdT s1).2=s2;have a2:=(zBj s1).1;rw [hs2] at a2;generalize hs3:(rdT s2).2=s3;have a3:=(zBj s2).1;rw [hs3] at a3;have v0:=zCa 1099511627776 (s,false);have d1:=zGb (N:=N) s3 (by simp only at a1;omega);have d2:=zGb (N:=N) (rdDs s3).2 (by simp only at a1;omega);simp only at a1
 exact ⟨⟨by simp only;omega,by simp only;omega⟩,Nat.le_trans (zBj s1).2.2.2 (by omega),Nat.le_trans (zBj s2).2.2.2 (by omega),d1.1,d2.1,d1.2.1,d2.2.1⟩
theorem zCn (s:Sq):0≤(qdN s).1∧(qdN s).1≤1099511627776:=by
 unfold qdN;have:=zKu s.rest;exact ⟨by simp,by simp only;omega⟩
theorem zAn (s:Sq):(qdN s).2.rest.length≤s.rest.length∧((qdN s).2.bad=false→s.bad=false∧(qdN s).2.rest.length+1≤s.rest.length)∧(qdN s).2.left=s.left:=by
 unfold qdN;refine ⟨by simp,fun h=>?_,rfl⟩;simp only [Bool.or_eq_false_iff,bne_eq_false_iff_eq] at h
 have h1:=zOm h.2;exact ⟨h.1,by simp only [List.length_drop];omega⟩
theorem zBb (s:Sq):(qdT s).2.rest.length≤s.rest.length∧((qdT s).2.bad=false→s.bad=false∧(qdT s).2.rest.length+1≤s.rest.length)∧(qdT s).2.left=s.left∧(qdT s).1.size≤s.rest.length:=by
 unfold qdT;refine ⟨by simp,fun h=>?_,rfl,?_⟩
 ·simp only [Bool.or_eq_false_iff,bne_eq_false_iff_eq] at h
  have h1:=zOn h.2;exact ⟨h.1,by simp only [List.length_drop];omega⟩
 ·rw [zAt]
  by_cases h:(getT s.rest).2.2=0
  ·exact (zOn h).2.2.1
  ·rw [(zUi h).1];exact Nat.zero_le _
theorem zOq {A:Type} {f:Sq→A×Sq} {g:A→Nat} (hf:∀s,s.bad=false→g (f s).1+(f s).2.rest.length≤s.rest.length+1∧((f s).2.bad=false→g (f s).1+(f s).2.rest.length≤s.rest.length)) :
  ∀(c:Nat) (s:Sq),((qdL f c s).1.map g).sum+(qdL f c s).2.rest.length≤s.rest.length+1∧((qdL f c s).2.bad=false→((qdL f c s).1.map g).sum+(qdL f c s).2.rest.length≤s.rest.length)
 | 0,s=>⟨by simp [qdL],fun _=>by simp [qdL]⟩
 | c+1,s=>by
  rw [qdL];split
  ·exact ⟨by simp,fun _=>by simp⟩
  ·rename_i h
   have h1:=hf s (by simpa using h);simp only [List.map_cons,List.sum_cons]
   by_cases hb:(f s).2.bad=true
   ·have e:qdL f c (f s).2=([],(f s).2):=by
     cases c with
     | zero=>rfl
     | succ c=>rw [qdL,if_pos hb]
    rw [e];simp only [List.map_nil,List.sum_nil]
    exact ⟨by have:=h1.1;omega,fun h2=>absurd hb (by rw [h2];simp)⟩
   ·have h2:=h1.2 (by simpa using hb)
    have h3:=zOq hf c (f s).2;exact ⟨by omega,fun h4=>by have:=h3.2 h4;omega⟩
theorem zSu {A:Type} {f:Sq→A×Sq} {P:A→Prop} {N:Nat} (hf:∀s,s.rest.length≤N→P (f s).1) (hr:∀s,(f s).2.rest.length≤s.rest.length):∀(c:Nat) (s:Sq),s.rest.length≤N→∀x∈(qdL f c s).1,P x
 | 0,s,_=>by intro x hx;rw [qdL] at hx;cases hx
 | c+1,s,hs=>by
  intro x hx;rw [qdL] at hx;split at hx
  ·cases hx
  ·rcases List.mem_cons.1 hx with rfl|hx
   ·exact hf s hs
   ·exact zSu hf hr c _ (Nat.le_trans (hr s) hs) x hx
theorem zOr {A:Type} {f:Sq→A×Sq} (hr:∀s,(f s).2.rest.length≤s.rest.length):∀(c:Nat) (s:Sq),(qdL f c s).2.rest.length≤s.rest.length
 | 0,s=>Nat.le_refl _
 | c+1,s=>by
  rw [qdL];split
  ·exact Nat.le_refl _
  ·exact Nat.le_trans (zOr hr c _) (hr s)
theorem zOs:∀(d:Nat) (s:Sq),(qdX d s).2.rest.length≤s.rest.length
 | 0,s=>Nat.le_refl _
 | d+1,s=>by
  unfold qdX;split
  ·exact Nat.le_refl _
  ·simp only
   refine Nat.le_trans (zOr (zOs d) _ _) ?_;exact Nat.le_trans (zAn _).1 (Nat.le_trans (zAn _).1 (Nat.le_trans (zAn _).1 (Nat.le_trans (zBb _).1 (Nat.le_trans (zBb _).1 (zAn _).1))))
theorem zKz:∀(d:Nat) (s:Sq),nodesN (qdX d s).1+(qdX d s).2.rest.length≤s.rest.length+1∧((qdX d s).2.bad=false→nodesN (qdX d s).1+(qdX d s).2.rest.length≤s.rest.length)
 | 0,s=>by
  have e:nodesN (qdX 0 s).1=1:=rfl;rw [e];exact ⟨by show 1+s.rest.length≤_;omega,fun h=>by cases h⟩
 | d+1,s=>by
  unfold qdX;split
  ·exact ⟨by show 1+s.rest.length≤_;omega,fun h=>by cases h⟩
  ·simp only
   have hs0:({ s with left:=s.left - 1 }:Sq).rest.length=s.rest.length:=rfl;generalize ({ s with left:=s.left - 1 }:Sq)=s0 at *;generalize hs1:(qdN s0).2=s1;have a1:=zAn s0;rw [hs1] at a1;generalize hs2:(qdT s1).2=s2;have a2:=zBb s1;rw [hs2] at a2;generalize hs3:(qdT s2).2=s3;have a3:=zBb s2;rw [hs3] at a3;generalize hs4:(qdN s3).2=s4;have a4:=zAn s3;rw [hs4] at a4;generalize hs5:(qdN s4).2=s5;have a5:=zAn s4;rw [hs5] at a5;generalize hs6:(qdN s5).2=s6;have a6:=zAn s5;rw [hs6] at a6
   rw [nodesN,zN];have h:=zOq (f:=qdX d) (g:=nodesN) (fun s _=>zKz d s) (qdN s5).1.toNat s6;have l6:=a6.1;have l5:=a5.1;have l4:=a4.1;have l3:=a3.1;have l2:=a2.1;have l1:=a1.1
   cases hb:s6.bad with
   | false=>
    have:=(a6.2.1 hb).2;exact ⟨by omega,fun h1=>by have:=h.2 h1;omega⟩
   | true=>
    have e:qdL (qdX d) (qdN s5).1.toNat s6=([],s6):=by
     cases (qdN s5).1.toNat with
     | zero=>rfl
     | succ c=>rw [qdL,if_pos hb]
    rw [e];simp only [List.map_nil,List.sum_nil]
    exact ⟨by omega,fun h1=>absurd hb (by rw [h1];simp)⟩
theorem zQz {N:Nat}:∀(d:Nat) (s:Sq),s.rest.length≤N→RdX N (qdX d s).1
 | 0,s,_=>.mk (Nat.zero_le _) (Nat.zero_le _) ⟨by omega,by omega⟩ ⟨by omega,by omega⟩ ⟨by omega,by omega⟩ (fun _ h=>by cases h)
 | d+1,s,hs=>by
  unfold qdX;split
  ·exact .mk (Nat.zero_le _) (Nat.zero_le _) ⟨by omega,by omega⟩ ⟨by omega,by omega⟩ ⟨by omega,by omega⟩ (fun _ h=>by cases h)
  ·simp only
   have hs0:({ s with left:=s.left - 1 }:Sq).rest.length=s.rest.length:=rfl;generalize ({ s with left:=s.left - 1 }:Sq)=s0 at *;generalize hs1:(qdN s0).2=s1;have a1:=(zAn s0).1;rw [hs1] at a1;generalize hs2:(qdT s1).2=s2;have a2:=(zBb s1).1;rw [hs2] at a2;generalize hs3:(qdT s2).2=s3;have a3:=(zBb s2).1;rw [hs3] at a3;generalize hs4:(qdN s3).2=s4;have a4:=(zAn s3).1;rw [hs4] at a4;generalize hs5:(qdN s4).2=s5;have a5:=(zAn s4).1;rw [hs5] at a5;have a6:=(zAn s5).1;have v0:=zCn s0
   have v3:=zCn s3;have v4:=zCn s4;refine .mk (Nat.le_trans (zBb s1).2.2.2 (by omega)) (Nat.le_trans (zBb s2).2.2.2 (by omega)) ⟨by omega,by omega⟩ (zMz v3.1 v3.2) ⟨by omega,by omega⟩ ?_;exact zSu (f:=qdX d) (N:=N) (fun s hs=>zQz d s hs) (zOs d) _ _ (by omega)
theorem yA (c:Nat) (s:Sq):(qdL qdT c s).1.length≤s.rest.length+1:=by
 have:=(zOq (f:=qdT) (g:=fun _=>1) (fun s _=>by
  have h:=zBb s
  exact ⟨by have:=h.1;omega,fun h1=>by have:=(h.2.1 h1).2;omega⟩) c s).1
 have e:∀l:List ByteArray,(l.map fun _=>1).sum=l.length:=by
  intro l
  induction l with
  | nil=>rfl
  | cons x r ih=>rw [List.map_cons,List.sum_cons,ih,List.length_cons];omega
 rw [e] at this;omega
theorem zR {N:Nat} (s:Sq) (hs:s.rest.length≤N):RdD N (qdD s).1∧(qdD s).2.rest.length≤s.rest.length:=by
 unfold qdD;simp only
 generalize hs1:(qdN s).2=s1;have a1:=(zAn s).1;rw [hs1] at a1;generalize hs2:(qdN s1).2=s2;have a2:=(zAn s1).1;rw [hs2] at a2;generalize hs3:(qdN s2).2=s3;have a3:=(zAn s2).1;rw [hs3] at a3;generalize hs4:(qdN s3).2=s4;have a4:=(zAn s3).1;rw [hs4] at a4;generalize hs5:(qdN s4).2=s5;have a5:=(zAn s4).1;rw [hs5] at a5;have v0:=zCn s;have v1:=zCn s1;have a6:=zOr (f:=qdT) (fun s=>(zBb s).1) (qdN s4).1.toNat s5;have hl:=yA (qdN s4).1.toNat s5
 generalize hz:({ (qdL qdT (qdN s4).1.toNat s5).2 with left:=400 }:Sq)=z;have hr:z.rest=(qdL qdT (qdN s4).1.toNat s5).2.rest:=by rw [←hz]
 have hx:=zKz 41 z;have hm:=zOs 41 z;rw [hr] at hx hm;refine ⟨⟨⟨by simp only;omega,by simp only;omega⟩,⟨by simp only;omega,by simp only;omega⟩,?_,by simp only;omega,zQz 41 _ (by rw [hr];omega),by simp only;omega⟩,by omega⟩;exact zSu (f:=qdT) (P:=fun x=>x.size≤N) (N:=N) (fun s hs=>Nat.le_trans (zBb s).2.2.2 hs) (fun s=>(zBb s).1) _ _ (by omega)
theorem zGc {N:Nat} (s:Sq) (hs:s.rest.length≤N):(∀d∈(qdDs s).1,RdD N d)∧(qdDs s).1.length≤1∧(qdDs s).2.rest.length≤s.rest.length:=by
 have a1:=(zAn s).1;have h:=zR (N:=N) (qdN s).2 (by omega);unfold qdDs;split
 ·exact ⟨fun d hd=>(by cases hd),Nat.zero_le _,a1⟩
 ·exact ⟨fun d hd=>(by rw [List.mem_singleton.1 hd];exact h.1),Nat.le_refl _,(by have:=h.2;simp only;omega)⟩
theorem zRa {N:Nat} (s:List UInt8) (hs:s.length≤N):RdE N (qdE s).1:=by
 unfold qdE;simp only
 generalize hs1:(qdN ⟨s,0,false⟩).2=s1;have a1:=(zAn ⟨s,0,false⟩).1;rw [hs1] at a1;generalize hs2:(qdT s1).2=s2;have a2:=(zBb s1).1;rw [hs2] at a2;generalize hs3:(qdT s2).2=s3;have a3:=(zBb s2).1;rw [hs3] at a3;have v0:=zCn ⟨s,0,false⟩;simp only at a1
 have d1:=zGc (N:=N) s3 (by omega);have d2:=zGc (N:=N) (qdDs s3).2 (by omega);exact ⟨⟨by simp only;omega,by simp only;omega⟩,Nat.le_trans (zBb s1).2.2.2 (by omega),Nat.le_trans (zBb s2).2.2.2 (by omega),d1.1,d2.1,d1.2.1,d2.2.1⟩
end Go.Proofs.YtfkjfdbjhlmjcaaGreatDoor
namespace Go.Proofs.YtfkjfdbjhlmjcaaGreatDoor
open Go.RowKit Go.Shelf
theorem zSv {k:Int} {a b c:Nat} (h:shapeK k=some (a,b,c)):1≤k∧k≤15∧c≤3∧(b=0∨(b=1∧(k=1∨k=2∨k=5))∨(b=2∧k=14)):=by
 have key:∀(j:Int) (t:Nat×Nat×Nat) (r:Option (Nat×Nat×Nat)),(if k=j then some t else r)=some (a,b,c)→(k=j∧t=(a,b,c))∨r=some (a,b,c):=by
  intro j t r h;split at h
  ·rename_i e
   exact .inl ⟨e,Option.some.inj h⟩
  ·exact .inr h
 unfold shapeK at h
 have fin:∀{x y z:Nat},(x,y,z)=(a,b,c)→x=a∧y=b∧z=c:=fun e=>by injection e with e1 e2;injection e2 with e2 e3;exact ⟨e1,e2,e3⟩
 obtain ⟨h1,h2⟩|h:=key _ _ _ h
 ·have:=fin h2;omega
 obtain ⟨h1,h2⟩|h:=key _ _ _ h
 ·have:=fin h2;omega
 obtain ⟨h1,h2⟩|h:=key _ _ _ h
 ·have:=fin h2;omega
 obtain ⟨h1,h2⟩|h:=key _ _ _ h
 ·have:=fin h2;omega
 obtain ⟨h1,h2⟩|h:=key _ _ _ h
 ·have:=fin h2;omega
 obtain ⟨h1,h2⟩|h:=key _ _ _ h
 ·have:=fin h2;omega
 obtain ⟨h1,h2⟩|h:=key _ _ _ h
 ·have:=fin h2;omega
 obtain ⟨h1,h2⟩|h:=key _ _ _ h
 ·have:=fin h2;omega
 obtain ⟨h1,h2⟩|h:=key _ _ _ h
 ·have:=fin h2;omega
 obtain ⟨h1,h2⟩|h:=key _ _ _ h
 ·have:=fin h2;omega
 obtain ⟨h1,h2⟩|h:=key _ _ _ h
 ·have:=fin h2;omega
 obtain ⟨h1,h2⟩|h:=key _ _ _ h
 ·have:=fin h2;omega
 obtain ⟨h1,h2⟩|h:=key _ _ _ h
 ·have:=fin h2;omega
 obtain ⟨h1,h2⟩|h:=key _ _ _ h
 ·have:=fin h2;omega
 rcases key _ _ _ h with ⟨h1,h2⟩|h
 ·have:=fin h2;omega
 ·cases h
theorem yAa {x:Ex} (h:nodeErr x=0):1≤x.kind∧x.kind≤15∧-999999999≤x.num∧x.num≤999999999∧0≤x.den∧x.den≤999999∧x.subs.length≤3:=by
 unfold nodeErr at h
 cases hs:shapeK x.kind with
 | none=>rw [hs] at h;exact absurd (show (9:Int)=0 from h) (by decide)
 | some t=>
  obtain ⟨a,b,c⟩:=t;rw [hs] at h;simp only at h
  split at h
  ·exact absurd h (by decide)
  rename_i ha
  split at h
  ·exact absurd h (by decide)
  split at h
  ·exact absurd h (by decide)
  split at h
  case isFalse=>exact absurd h (by decide)
  rename_i hn
  obtain ⟨h1,h2,h3,h4⟩:=zSv hs;unfold argBad at ha;simp only [Bool.or_eq_true,Bool.and_eq_true,decide_eq_true_eq,bne_iff_ne,ne_eq,not_or,not_and,Bool.not_eq_true',Bool.not_eq_false,Classical.not_not] at ha
  obtain ⟨⟨⟨⟨-,-⟩,hb1⟩,hb2⟩,hc⟩:=ha;unfold numsOk at hn;refine ⟨h1,h2,?_⟩
  rcases h4 with h4|⟨h4,h5⟩|⟨h4,h5⟩
  ·have e1:=hb1 (by omega)
   have e2:=hb2 (by omega);rw [e1,e2,hc];omega
  ·have e2:=hb2 (by omega)
   rw [e2,hc]
   rcases h5 with h5|h5|h5
   ·rw [if_pos h5] at hn;simp only [Bool.and_eq_true,decide_eq_true_eq] at hn;omega
   ·rw [if_neg (by omega),if_pos h5] at hn;simp only [Bool.or_eq_true,beq_iff_eq] at hn;omega
   ·rw [if_neg (by omega),if_neg (by omega),if_pos h5] at hn;simp only [Bool.and_eq_true,decide_eq_true_eq] at hn;omega
  ·rw [if_neg (by omega),if_neg (by omega),if_neg (by omega),if_pos h5] at hn
   simp only [Bool.and_eq_true,decide_eq_true_eq] at hn
   rw [hc];omega
theorem zUm (x:Ex):ValX x→SmX 40000 x→EncOk x:=by
 refine Ex.ind (P:=fun x=>ValX x→SmX 40000 x→EncOk x) (fun x ih hv hs=>?_) x;have hn:=yAa hv.node;have h1:=hs.name;have h2:=hs.more;have h3:=hs.subs;have h4:∀y∈x.subs,ValX y:=fun y hy=>hv.sub hy;clear hv hs
 cases x with
 | mk k n m i d s=>
  have e1:(Ex.mk k n m i d s).kind=k:=rfl;have e2:(Ex.mk k n m i d s).num=i:=rfl;have e3:(Ex.mk k n m i d s).den=d:=rfl;have e4:(Ex.mk k n m i d s).subs=s:=rfl;have e5:(Ex.mk k n m i d s).name=n:=rfl;have e6:(Ex.mk k n m i d s).more=m:=rfl;rw [e1,e2,e3,e4] at hn;rw [e5] at h1;rw [e6] at h2;rw [e4] at h3 h4 ih;exact .mk (by omega) (by omega) (by omega) (by omega) (by omega) (by omega) (by omega) (by omega) hn.2.2.2.2.2.2 (fun y hy=>ih y hy (h4 y hy) (h3 y hy))
theorem zLp {x:Ex} (h:exprErr x=0):nodesN x≤400∧depthN x≤40:=by
 rw [exprErr] at h;split at h
 ·omega
 ·omega
theorem zNa:EncOk exZ:=.mk (by omega) (by omega) (by decide) (by decide) (by omega) (by omega) (by omega) (by omega) (by decide) (fun y hy=>by cases hy)
theorem yCo {k:Int} {d:ODecl} {label:ByteArray} (hp:7≤k→d=partD k d) (hk:k≤9) (h:declErr label (compD k d)=0) (hs:SmD d):DecOk d:=by
  have hid:(compD k d).id=d.id:=rfl
  have h1:=h
  unfold declErr at h1
  rw [hid] at h1
  split at h1
  · exact absurd h1 (by decide)
  rename_i hi
  split at h1
  case isFalse hr=>exact absurd h1 hr
  rename_i hr
  unfold rDeclErr at hr
  rw [hid] at hr
  split at hr
  · exact absurd hr (by decide)
  rename_i hi2
  split at hr
  · exact absurd hr (by decide)
  rename_i hkk
  split at hr
  case isFalse hn=>exact absurd hr hn
  rename_i hn
  have hnl:(compD k d).names.length≤3:=by
    unfold namesErr at hn
    split at hn
    · exact absurd hn (by decide)
    · omega
  have hb:=zLp hr
  have hv:=zGi hr
  have hz:nodesN exZ=1∧depthN exZ=1:=⟨rfl,rfl⟩
  by_cases h7:7≤k
  · have hd:=hp h7
    rcases (show k=7∨k=8∨k=9 by omega) with rfl|rfl|rfl
    · have e1:d.kind=0:=by rw [hd];rfl
      have e2:d.body=exZ:=by rw [hd];rfl
      exact ⟨by omega,by omega,by omega,by omega,hnl,fun s hm=>Nat.le_trans (hs.names s hm) (by omega),by rw [e2];exact zNa,by rw [e2,hz.2];omega,by rw [e2,hz.1];omega⟩
    · have e1:d.kind=0:=by rw [hd];rfl
      have e2:d.names=[]:=by rw [hd];rfl
      exact ⟨by omega,by omega,by omega,by omega,by rw [e2];exact Nat.zero_le _,fun s hm=>Nat.le_trans (hs.names s hm) (by omega),zUm _ hv hs.body,hb.2,hb.1⟩
    · have e1:d.names=[]:=by rw [hd];rfl
      have e2:d.body=exZ:=by rw [hd];rfl
      have e3:(compD 9 d).kind=d.kind:=rfl
      rw [e3] at hkk
      exact ⟨by omega,by omega,by omega,by omega,by rw [e1];exact Nat.zero_le _,fun s hm=>Nat.le_trans (hs.names s hm) (by omega),by rw [e2];exact zNa,by rw [e2,hz.2];omega,by rw [e2,hz.1];omega⟩
  · rw [zPx (by omega)] at hkk hnl hb hv
    exact ⟨by omega,by omega,by omega,by omega,hnl,fun s hm=>Nat.le_trans (hs.names s hm) (by omega),zUm _ hv hs.body,hb.2,hb.1⟩
theorem yAb {l:List ODecl} (h:l.length≤1) {d:ODecl} (hd:d∈l):d=dAt l 0:=by
 match l,h with
 | [],_=>cases hd
 | [x],_=>rw [List.mem_singleton.1 hd];rfl
theorem zJk {e:OEdit} (h:editErr e=0) (hs:SmE e):EdiOk e:=by
  obtain ⟨hk,hf,ht⟩:=zIs.1 h
  obtain ⟨-,hol,hfl⟩:=zBt h
  have ho:e.old.length≤1:=by rw [hol];unfold oldsN;split<;>omega
  have hn:e.fresh.length≤1:=by rw [hfl];unfold newsN;split<;>omega
  have key:∀d,d∈e.old++e.fresh→SmD d→DecOk d:=by
    intro d hd hsd
    by_cases h5:5≤e.kind
    · refine yCo (k:=e.kind) (label:=e.pack) (fun h7=>?_) hk.2 ?_ hsd
      · have h8:=yFj h h7
        rcases List.mem_append.1 hd with hd|hd
        · rw [yAb ho hd];exact h8.1
        · rw [yAb hn hd];exact h8.2.1
      · have hm:=ht ⟨e.pack,[],[compD e.kind d]⟩ (by
          unfold testsOf
          rw [if_neg (by omega),if_neg (by omega)]
          exact List.mem_map.2 ⟨d,hd,rfl⟩)
        have hm1:=(zKl.1 hm).decl
        exact hm1 _ (List.mem_singleton.2 rfl)
    · obtain ⟨e1,e2⟩:=zQj h h5
      rw [e1,e2] at hd
      cases hd
  exact ⟨by omega,by omega,Nat.le_trans hs.pack (by omega),Nat.le_trans hs.text (by omega),ho,hn,fun d hd=>key d (List.mem_append_left _ hd) (hs.old d hd).1,fun d hd=>key d (List.mem_append_right _ hd) (hs.fresh d hd).1⟩
theorem RdD.sm {d:ODecl} {N:Nat} (h:RdD N d) (hN:N≤40000):SmD d∧nodesN d.body≤1000000:=
 ⟨⟨fun s hs=>Nat.le_trans (h.names s hs) hN,by have:=h.nlen;omega,(h.body.mono hN).sm,by have:=h.nodes;omega⟩,by have:=h.nodes;omega⟩
theorem RdE.sm {e:OEdit} {N:Nat} (h:RdE N e) (hN:N≤40000):SmE e:=
 ⟨Nat.le_trans h.pack hN,Nat.le_trans h.text hN,fun d hd=>(h.old d hd).sm hN,fun d hd=>(h.fresh d hd).sm hN,by have:=h.olen;omega,by have:=h.flen;omega⟩
def zeroE:OEdit:=⟨0,⟨#[]⟩,⟨#[]⟩,[],[]⟩
def decP (s:List UInt8):OEdit×Int:=if (rdE s).2.2=true∨(rdE s).2.1≠[] then (zeroE,13) else if editErr (rdE s).1=0∧encE (rdE s).1=s then ((rdE s).1,0) else (zeroE,13)
def decQ (s:List UInt8):OEdit×Int:=if (qdE s).2.bad=true then (zeroE,13) else if editErr (qdE s).1=0∧encE (qdE s).1=s then ((qdE s).1,0) else (zeroE,13)
theorem yCp {e:OEdit} (h:editErr e=0) (hs:SmE e):decP (encE e)=(e,0):=by
 unfold decP;rw [yEn e (zJk h hs),if_neg (by simp),if_pos ⟨h,rfl⟩]
theorem yCq {e:OEdit} (h:editErr e=0) (hs:SmE e):decQ (encE e)=(e,0):=by
 obtain ⟨k,e1⟩:=yEp e (zJk h hs);unfold decQ;rw [e1,if_neg (by simp),if_pos ⟨h,rfl⟩]
theorem yAc (s:List UInt8) (hs:s.length≤40000):decP s=(zeroE,13)∨∃e,SmE e∧editErr e=0∧encE e=s∧decP s=(e,0):=by
 have h:=(zQy s (Nat.le_refl _)).sm hs;unfold decP;split
 ·exact .inl rfl
 ·split
  ·rename_i h1
   exact .inr ⟨_,h,h1.1,h1.2,rfl⟩
  ·exact .inl rfl
theorem yEq (s:List UInt8) (hs:s.length≤40000):decQ s=(zeroE,13)∨∃e,SmE e∧editErr e=0∧encE e=s∧decQ s=(e,0):=by
 have h:=(zRa s (Nat.le_refl _)).sm hs;unfold decQ;split
 ·exact .inl rfl
 ·split
  ·rename_i h1
   exact .inr ⟨_,h,h1.1,h1.2,rfl⟩
  ·exact .inl rfl
theorem yCr (s:List UInt8) (hs:s.length≤40000):decP s=decQ s:=by
 rcases yAc s hs with h1|⟨e,a1,a2,a3,a4⟩
 ·rcases yEq s hs with h2|⟨f,b1,b2,b3,b4⟩
  ·rw [h1,h2]
  ·subst b3
   rw [yCp b2 b1,b4]
 ·subst a3
  rw [yCq a2 a1,a4]
end Go.Proofs.YtfkjfdbjhlmjcaaGreatDoor
