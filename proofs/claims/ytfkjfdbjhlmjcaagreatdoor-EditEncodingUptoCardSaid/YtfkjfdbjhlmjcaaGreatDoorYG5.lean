/- Arguments that came in, read, with how much they hold; append of a whole slice onto a. -/
import Derived.Test.YtfkjfdbjhlmjcaaGreatDoorRows
import Derived.Deep.Strs
import Derived.Test.YtfkjfdbjhlmjcaaGreatDoorYSEr
set_option maxRecDepth 100000
namespace Go.Proofs.YtfkjfdbjhlmjcaaGreatDoor
open Go.RowKit Go.ChangeShapes Go.WideShapes
theorem zQe {W:World} {b o:Nat} {v:Value} (h:W.cell? ⟨b,o,none⟩=some v):b<W.heap.size:=by
 cases hA:W.heap[b]? with
 | none=>simp [World.cell?,hA] at h
 | some ob=>exact (Array.getElem?_eq_some_iff.1 hA).1
theorem ReadsL.one {w:World} {X:List Nat} {d:Tree} {v:Value} (h:ReadsL w X [d] [v]):Reads w X d v:=by
 obtain ⟨x,rest,e,h1,_⟩:=h.inv
 cases e;exact h1
section
variable {H:Type} {enc:TypeId×Value→H} {w:World} {base:Nat} {held:Bool}
def OpB (enc:TypeId×Value→H) (w:World) (base:Nat) (held:Bool) (fuel:Nat) {α:Type} (t:TypeId) (f:α→List Tree) (P:Nat→α→Prop):Prop:=
  ∀(cs:List Value) (x:DataW H×List MemPlace),DataW.trod enc Tryz.prog w base (fun _=>true) held fuel t cs=some x→∃a,ReadsL w [] (f a) cs∧P (Rows.uptoBulk x.1) a
theorem zGz (fuel:Nat):OpB enc w base held fuel 9 (fun s=>[strT s]) (fun B s=>s.size+1≤B):=fun cs x h=>by
 obtain ⟨s,hn,hx,_⟩:=DataW.trod_string Tryz.underlying9 h;rw [hn,hx];exact ⟨s,ReadsL.cons (Reads.leaf' _ _ _) (ReadsL.nil _ _),by simp [Rows.uptoBulk]⟩
theorem zH (fuel:Nat):OpB enc w base held fuel 3 (fun n=>[.leaf (.int .i64 n)]) (fun B n=>inI n∧1≤B):=fun cs x h=>by
 obtain ⟨n,hn,hx,hwf⟩:=DataW.trod_int Tryz.underlying3 h;rw [hn,hx];refine ⟨n,ReadsL.cons (Reads.leaf' _ _ _) (ReadsL.nil _ _),?_,by simp [Rows.uptoBulk]⟩;simp [Lit.wf,IntKind.min,IntKind.max,IntKind.signed,IntKind.bits] at hwf
 unfold inI;omega
theorem zRz (fuel:Nat):OpB enc w base held fuel 4 (fun b=>[.leaf (.bool b)]) (fun B _=>1≤B):=fun cs x h=>by
 obtain ⟨b,hn,hx⟩:=DataW.trod_bool Tryz.underlying4 h;rw [hn,hx];exact ⟨b,ReadsL.cons (Reads.leaf' _ _ _) (ReadsL.nil _ _),by simp [Rows.uptoBulk]⟩
def AllB {α:Type} (P:Nat→α→Prop) (B:Nat) (l:List α):Prop:=∃bs:List Nat,bs.length=l.length∧bs.sum+1≤B∧∀(i:Nat) (b:Nat) (a:α),bs[i]?=some b→l[i]?=some a→P b a
theorem zJm (l:List (DataW H)):Rows.uptoBulkAll l=(l.map Rows.uptoBulk).sum:=by
 induction l with
 | nil=>rfl
 | cons x r ih=>rw [Rows.uptoBulkAll,List.map_cons,List.sum_cons,ih]
theorem zQf {b:Nat} {bs:List Nat} (h:b∈bs):b≤bs.sum:=by
 induction bs with
 | nil=>cases h
 | cons x r ih=>
  rw [List.sum_cons]
  rcases List.mem_cons.1 h with rfl|h
  ·omega
  ·have:=ih h;omega
theorem zMx {α:Type} {t e:TypeId} {size fuel:Nat} {f:α→List Tree} {P:Nat→α→Prop} (hu:Tryz.prog.underlying t=some (.slice e)) (hsz:Tryz.prog.cellsOf e=size) (hs0:0<size) (hf:∀a,(f a).length=size)
  (he:∀g,g<fuel→OpB enc w base held g e f P):OpB enc w base held fuel t (fun l=>[rowT size f l]) (AllB P):=fun cs x h=>by
 rcases DataW.trod_slice hu h with ⟨rfl,hx⟩|⟨a',len,cap,elems,rest,n,hfu,rfl,hx,_,hl,hm,hel,hc,_,_⟩
 ·rw [hx]
  exact ⟨[],ReadsL.cons (Reads.nilRow _ _ _ _) (ReadsL.nil _ _),[],rfl,by simp [Rows.uptoBulk],by simp⟩
 ·rw [hsz] at hc
  rw [hx];have hn:n<fuel:=by omega
  have key:∀q,q≤len→∃(l:List α) (xs:List Value),l.length=q∧ReadsL w [] (l.flatMap f) xs∧(∀j u,xs[j]?=some u→w.cell? (a'.add j)=some u)∧∀(i:Nat) (y:DataW H×List MemPlace) (a:α),elems[i]?=some y→l[i]?=some a→P (Rows.uptoBulk y.1) a:=by
   intro q
   induction q with
   | zero=>intro _;exact ⟨[],[],rfl,ReadsL.nil _ _,by simp,by simp⟩
   | succ q ih=>
    intro hq;obtain ⟨l,xs,hll,hrl,hcell,hP⟩:=ih (by omega);have hcq:=hc q (by omega);have hlt:q<elems.length:=by omega
    rw [List.getElem?_eq_getElem hlt] at hcq;obtain ⟨cs',h1,h2⟩:=Option.bind_eq_some_iff.1 hcq;obtain ⟨a,hra,hPa⟩:=he n hn _ _ h2;obtain ⟨_,_,hcs⟩:=World.cells?_some h1;have hxl:xs.length=q * size:=by rw [hrl.len,zCj hf,hll]
    have hcl:cs'.length=size:=by rw [hra.len,hf]
    refine ⟨l++[a],xs++cs',by simp [hll],by rw [List.flatMap_append,List.flatMap_cons,List.flatMap_nil,List.append_nil];exact ReadsL.append hra hrl,fun j u hj=>?_,fun i y b hy hb=>?_⟩
    ·by_cases hjl:j<xs.length
     ·rw [List.getElem?_append_left hjl] at hj
      exact hcell j u hj
     ·rw [List.getElem?_append_right (by omega)] at hj
      have hlt:=(List.getElem?_eq_some_iff.1 hj).1;have:=hcs (j - xs.length) (by omega);rw [hj,Deep.add_add,hxl,show q * size+(j - q * size)=j by omega] at this;exact this
    ·by_cases hil:i<l.length
     ·rw [List.getElem?_append_left hil] at hb
      exact hP i y b hy hb
     ·rw [List.getElem?_append_right (by omega)] at hb
      have hlt2:=(List.getElem?_eq_some_iff.1 hb).1;have hiq:i=q:=by simp at hlt2;omega
      subst hiq;rw [hll,Nat.sub_self] at hb
      cases hb
      rw [List.getElem?_eq_getElem hlt] at hy
      cases hy
      exact hPa
  obtain ⟨l,xs,hll,hrl,hcell,hP⟩:=key len (Nat.le_refl _);have hxl:xs.length=len * size:=by rw [hrl.len,zCj hf,hll]
  refine ⟨l,ReadsL.cons (Reads.ofRow (xs:=xs) ⟨by rw [hll];exact hxl,some a',cap,by rw [hll],by omega,hm,fun hn=>?_⟩ (fun _ _ _ h=>by cases h) hrl) (ReadsL.nil _ _),elems.map (fun y=>Rows.uptoBulk y.1),by rw [List.length_map,hel,hll],?_,fun i b a hb ha=>?_⟩
  ·have hx0:0<xs.length:=by rw [hxl];rw [hll] at hn;exact Nat.mul_pos hn hs0
   have h0:=hcell 0 _ (List.getElem?_eq_getElem hx0)
   have hs:a'.spot=none:=by
    have:=World.cell?_spot h0
    simpa [Addr.add] using this
   obtain ⟨b,o,sp⟩:=a';simp only at hs
   subst hs;refine ⟨b,o,rfl,zQe (o:=o) (by simpa [Addr.add] using h0),fun j u hj=>?_⟩;have:=hcell j u hj
   by_cases h0:j=0
   ·subst h0;simpa [Addr.add] using this
   ·simpa [Addr.add,h0] using this
  ·rw [Rows.uptoBulk,zJm,List.map_map]
   show (elems.map (fun y=>Rows.uptoBulk y.1)).sum+1≤(elems.map (fun y=>Rows.uptoBulk y.1)).sum+_+1
   omega
  ·rw [List.getElem?_map] at hb
   obtain ⟨y,hy,rfl⟩:=Option.map_eq_some_iff.1 hb;exact hP i y a hy ha
theorem zTq {B:Nat} {l:List Ex} (h:AllB (fun B x=>nodesN x≤B∧SmX B x) B l):nodesL l+1≤B∧∀x∈l,SmX B x:=by
 obtain ⟨bs,h1,h2,h3⟩:=h
 constructor
 ·have:∀(bs:List Nat) (l:List Ex),bs.length=l.length→(∀(i:Nat) (b:Nat) (a:Ex),bs[i]?=some b→l[i]?=some a→nodesN a≤b)→nodesL l≤bs.sum:=by
   intro bs
   induction bs with
   | nil=>intro l hl _;obtain rfl:l=[]:=List.length_eq_zero_iff.1 hl.symm;exact Nat.zero_le _
   | cons b bs ih=>
    intro l hl h
    match l,hl with
    | x::r,hl=>
     rw [nodesL,List.sum_cons];have a1:=h 0 b x rfl rfl;have a2:=ih r (by simpa using hl) (fun i b' a hb ha=>h (i+1) b' a (by simpa using hb) (by simpa using ha));omega
  have:=this bs l h1 (fun i b a hb ha=>(h3 i b a hb ha).1);omega
 ·intro x hx
  obtain ⟨i,hi,rfl⟩:=List.getElem_of_mem hx;have hib:i<bs.length:=by omega
  have:=(h3 i _ _ (List.getElem?_eq_getElem hib) (List.getElem?_eq_getElem hi)).2;exact this.mono (by have:=zQf (List.getElem_mem hib);omega)
theorem zVp {α:Type} {l:List α} (h:l.length=6):∃a b c d e f,l=[a,b,c,d,e,f]:=by
 match l,h with
 | [a,b,c,d,e,f],_=>exact ⟨a,b,c,d,e,f,rfl⟩
theorem zYz:∀fuel,OpB enc w base held fuel 60 exprT (fun B x=>nodesN x≤B∧SmX B x):=by
 intro fuel
 induction fuel using Nat.strongRecOn with
 | _ fuel ih=>
  intro cs x h;obtain ⟨xs,n,hfu,rfl,hlen,hxl,hfl⟩:=DataW.trod_struct Tryz.underlying60 h;rw [show Tryz.prog.cellsOf 60=6 by kernel_rfl] at hlen;obtain ⟨c0,c1,c2,c3,c4,c5,rfl⟩:=zVp hlen;obtain ⟨y0,y1,y2,y3,y4,y5,rfl⟩:=zVp (show xs.length=6 from hxl);have e1:Tryz.prog.cellsOf 3=1:=by kernel_rfl
  have e2:Tryz.prog.cellsOf 9=1:=by kernel_rfl
  have e3:Tryz.prog.cellsOf 58=1:=by kernel_rfl
  have g0:DataW.trod enc Tryz.prog w base (fun _=>true) held n 3 (([c0,c1,c2,c3,c4,c5].drop 0).take (Tryz.prog.cellsOf 3))=some y0:=hfl 0 _ rfl;have g1:DataW.trod enc Tryz.prog w base (fun _=>true) held n 9 (([c0,c1,c2,c3,c4,c5].drop 1).take (Tryz.prog.cellsOf 9))=some y1:=hfl 1 _ rfl;have g2:DataW.trod enc Tryz.prog w base (fun _=>true) held n 9 (([c0,c1,c2,c3,c4,c5].drop 2).take (Tryz.prog.cellsOf 9))=some y2:=hfl 2 _ rfl
  have g3:DataW.trod enc Tryz.prog w base (fun _=>true) held n 3 (([c0,c1,c2,c3,c4,c5].drop 3).take (Tryz.prog.cellsOf 3))=some y3:=hfl 3 _ rfl;have g4:DataW.trod enc Tryz.prog w base (fun _=>true) held n 3 (([c0,c1,c2,c3,c4,c5].drop 4).take (Tryz.prog.cellsOf 3))=some y4:=hfl 4 _ rfl;have g5:DataW.trod enc Tryz.prog w base (fun _=>true) held n 58 (([c0,c1,c2,c3,c4,c5].drop 5).take (Tryz.prog.cellsOf 58))=some y5:=hfl 5 _ rfl;rw [e1] at g0 g3 g4;rw [e2] at g1 g2;rw [e3] at g5;obtain ⟨k,hk,ik⟩:=zH _ _ _ g0
  obtain ⟨nm,hnm,inm⟩:=zGz _ _ _ g1;obtain ⟨mo,hmo,imo⟩:=zGz _ _ _ g2;obtain ⟨nu,hnu,inu⟩:=zH _ _ _ g3;obtain ⟨de,hde,ide⟩:=zH _ _ _ g4;obtain ⟨su,hsu,isu⟩:=zMx (enc:=enc) (w:=w) (base:=base) (held:=held) (fuel:=n) Tryz.underlying58 (by kernel_rfl) (by decide) zCw (fun g hg=>ih g (by omega)) _ _ g5;obtain ⟨hb1,hb2⟩:=zTq isu
  have hB:Rows.uptoBulk (DataW.agg [y0.1,y1.1,y2.1,y3.1,y4.1,y5.1])=Rows.uptoBulk y0.1+(Rows.uptoBulk y1.1+(Rows.uptoBulk y2.1+(Rows.uptoBulk y3.1+(Rows.uptoBulk y4.1+(Rows.uptoBulk y5.1+0)))))+1:=by
   simp only [Rows.uptoBulk,Rows.uptoBulkAll]
  refine ⟨.mk k nm mo nu de su,?_,?_⟩
  ·rw [zEt]
   exact ReadsL.cons (ReadsL.one hk) (ReadsL.cons (ReadsL.one hnm) (ReadsL.cons (ReadsL.one hmo) (ReadsL.cons (ReadsL.one hnu) (ReadsL.cons (ReadsL.one hde) (ReadsL.cons (ReadsL.one hsu) (ReadsL.nil _ _))))))
  ·show nodesN _≤Rows.uptoBulk (DataW.agg [y0.1,y1.1,y2.1,y3.1,y4.1,y5.1])∧SmX (Rows.uptoBulk (DataW.agg [y0.1,y1.1,y2.1,y3.1,y4.1,y5.1])) _
   rw [hB];refine ⟨by rw [zBg];show 1+nodesL su≤_;omega,.mk (by omega) (by omega) ik.1 inu.1 ide.1 (fun y hy=>(hb2 y hy).mono (by omega))⟩
end
section
variable {H:Type} {enc:TypeId×Value→H} {w:World} {base:Nat} {held:Bool}
theorem zMy {α:Type} {P:Nat→α→Prop} {B:Nat} {l:List α} (h:AllB P B l):∀a∈l,∃b,b≤B∧P b a:=by
 obtain ⟨bs,h1,h2,h3⟩:=h;intro a ha;obtain ⟨i,hi,rfl⟩:=List.getElem_of_mem ha;have hib:i<bs.length:=by omega
 exact ⟨bs[i],by have:=zQf (List.getElem_mem hib);omega,h3 i _ _ (List.getElem?_eq_getElem hib) (List.getElem?_eq_getElem hi)⟩
def DeclB (B:Nat) (d:ODecl):Prop:=SmX B d.body∧nodesN d.body≤B∧∀s∈d.names,s.size≤B
theorem zVq {α:Type} {l:List α} (h:l.length=5):∃a b c d e,l=[a,b,c,d,e]:=by
 match l,h with
 | [a,b,c,d,e],_=>exact ⟨a,b,c,d,e,rfl⟩
theorem zVr {α:Type} {l:List α} (h:l.length=11):∃a b c d e f g i j k m,l=[a,b,c,d,e,f,g,i,j,k,m]:=by
 match l,h with
 | [a,b,c,d,e,f,g,i,j,k,m],_=>exact ⟨a,b,c,d,e,f,g,i,j,k,m,rfl⟩
theorem zS (fuel:Nat):OpB enc w base held fuel 62 declT DeclB:=by
 intro cs x h;obtain ⟨xs,n,hfu,rfl,hlen,hxl,hfl⟩:=DataW.trod_struct Tryz.underlying62 h;rw [show Tryz.prog.cellsOf 62=11 by kernel_rfl] at hlen;obtain ⟨c0,c1,c2,c3,c4,c5,c6,c7,c8,c9,c10,rfl⟩:=zVr hlen;obtain ⟨y0,y1,y2,y3,y4,y5,rfl⟩:=zVp (show xs.length=6 from hxl);have e1:Tryz.prog.cellsOf 3=1:=by kernel_rfl
 have e2:Tryz.prog.cellsOf 4=1:=by kernel_rfl
 have e3:Tryz.prog.cellsOf 50=1:=by kernel_rfl
 have e4:Tryz.prog.cellsOf 60=6:=by kernel_rfl
 have g0:DataW.trod enc Tryz.prog w base (fun _=>true) held n 3 (([c0,c1,c2,c3,c4,c5,c6,c7,c8,c9,c10].drop 0).take (Tryz.prog.cellsOf 3))=some y0:=hfl 0 _ rfl;have g1:DataW.trod enc Tryz.prog w base (fun _=>true) held n 3 (([c0,c1,c2,c3,c4,c5,c6,c7,c8,c9,c10].drop 1).take (Tryz.prog.cellsOf 3))=some y1:=hfl 1 _ rfl;have g2:DataW.trod enc Tryz.prog w base (fun _=>true) held n 4 (([c0,c1,c2,c3,c4,c5,c6,c7,c8,c9,c10].drop 2).take (Tryz.prog.cellsOf 4))=some y2:=hfl 2 _ rfl
 have g3:DataW.trod enc Tryz.prog w base (fun _=>true) held n 50 (([c0,c1,c2,c3,c4,c5,c6,c7,c8,c9,c10].drop 3).take (Tryz.prog.cellsOf 50))=some y3:=hfl 3 _ rfl;have g4:DataW.trod enc Tryz.prog w base (fun _=>true) held n 4 (([c0,c1,c2,c3,c4,c5,c6,c7,c8,c9,c10].drop 4).take (Tryz.prog.cellsOf 4))=some y4:=hfl 4 _ rfl;have g5:DataW.trod enc Tryz.prog w base (fun _=>true) held n 60 (([c0,c1,c2,c3,c4,c5,c6,c7,c8,c9,c10].drop 5).take (Tryz.prog.cellsOf 60))=some y5:=hfl 5 _ rfl;rw [e1] at g0 g1;rw [e2] at g2 g4;rw [e3] at g3
 rw [e4] at g5;obtain ⟨i,hi,ii⟩:=zH _ _ _ g0;obtain ⟨k,hk,ik⟩:=zH _ _ _ g1;obtain ⟨p,hp,ip⟩:=zRz _ _ _ g2;obtain ⟨ns,hns,ins⟩:=zMx (f:=fun s=>[strT s]) (P:=fun B (s:ByteArray)=>s.size+1≤B) (enc:=enc) (w:=w) (base:=base) (held:=held) (fuel:=n) Tryz.underlying50 (by kernel_rfl) (by decide) (fun _=>rfl) (fun g _=>zGz g) _ _ g3;obtain ⟨q,hq,iq⟩:=zRz _ _ _ g4;obtain ⟨b,hb,ib1,ib2⟩:=zYz _ _ _ g5
 have hB:Rows.uptoBulk (DataW.agg [y0.1,y1.1,y2.1,y3.1,y4.1,y5.1])=Rows.uptoBulk y0.1+(Rows.uptoBulk y1.1+(Rows.uptoBulk y2.1+(Rows.uptoBulk y3.1+(Rows.uptoBulk y4.1+(Rows.uptoBulk y5.1+0)))))+1:=by
  simp only [Rows.uptoBulk,Rows.uptoBulkAll]
 refine ⟨⟨i,k,p,ns,q,b⟩,?_,?_⟩
 ·exact ReadsL.cons (ReadsL.one hi) (ReadsL.cons (ReadsL.one hk) (ReadsL.cons (ReadsL.one hp) (ReadsL.cons (ReadsL.one hns) (ReadsL.cons (ReadsL.one hq) hb))))
 ·show DeclB (Rows.uptoBulk (DataW.agg [y0.1,y1.1,y2.1,y3.1,y4.1,y5.1])) _
  rw [hB];refine ⟨ib2.mono (by omega),Nat.le_trans ib1 (by omega),fun s hs=>?_⟩;obtain ⟨b',h1,h2⟩:=zMy ins s hs;omega
def EditB (B:Nat) (e:OEdit):Prop:=e.pack.size≤B∧e.text.size≤B∧(∀d∈e.old,∃b,b≤B∧DeclB b d)∧∀d∈e.fresh,∃b,b≤B∧DeclB b d
theorem zZ (fuel:Nat):OpB enc w base held fuel 39 editT EditB:=by
 intro cs x h;obtain ⟨xs,n,hfu,rfl,hlen,hxl,hfl⟩:=DataW.trod_struct Tryz.underlying39 h;rw [show Tryz.prog.cellsOf 39=5 by kernel_rfl] at hlen;obtain ⟨c0,c1,c2,c3,c4,rfl⟩:=zVq hlen;obtain ⟨y0,y1,y2,y3,y4,rfl⟩:=zVq (show xs.length=5 from hxl);have e1:Tryz.prog.cellsOf 3=1:=by kernel_rfl
 have e2:Tryz.prog.cellsOf 9=1:=by kernel_rfl
 have e3:Tryz.prog.cellsOf 37=1:=by kernel_rfl
 have g0:DataW.trod enc Tryz.prog w base (fun _=>true) held n 3 (([c0,c1,c2,c3,c4].drop 0).take (Tryz.prog.cellsOf 3))=some y0:=hfl 0 _ rfl;have g1:DataW.trod enc Tryz.prog w base (fun _=>true) held n 9 (([c0,c1,c2,c3,c4].drop 1).take (Tryz.prog.cellsOf 9))=some y1:=hfl 1 _ rfl;have g2:DataW.trod enc Tryz.prog w base (fun _=>true) held n 9 (([c0,c1,c2,c3,c4].drop 2).take (Tryz.prog.cellsOf 9))=some y2:=hfl 2 _ rfl
 have g3:DataW.trod enc Tryz.prog w base (fun _=>true) held n 37 (([c0,c1,c2,c3,c4].drop 3).take (Tryz.prog.cellsOf 37))=some y3:=hfl 3 _ rfl;have g4:DataW.trod enc Tryz.prog w base (fun _=>true) held n 37 (([c0,c1,c2,c3,c4].drop 4).take (Tryz.prog.cellsOf 37))=some y4:=hfl 4 _ rfl;rw [e1] at g0;rw [e2] at g1 g2;rw [e3] at g3 g4;obtain ⟨k,hk,ik⟩:=zH _ _ _ g0;obtain ⟨p,hp,ip⟩:=zGz _ _ _ g1;obtain ⟨t,ht,it⟩:=zGz _ _ _ g2
 obtain ⟨o,ho,io⟩:=zMx (enc:=enc) (w:=w) (base:=base) (held:=held) (fuel:=n) Tryz.underlying37 (by kernel_rfl) (by decide) zBw (fun g _=>zS g) _ _ g3;obtain ⟨f,hf,jf⟩:=zMx (enc:=enc) (w:=w) (base:=base) (held:=held) (fuel:=n) Tryz.underlying37 (by kernel_rfl) (by decide) zBw (fun g _=>zS g) _ _ g4
 have hB:Rows.uptoBulk (DataW.agg [y0.1,y1.1,y2.1,y3.1,y4.1])=Rows.uptoBulk y0.1+(Rows.uptoBulk y1.1+(Rows.uptoBulk y2.1+(Rows.uptoBulk y3.1+(Rows.uptoBulk y4.1+0))))+1:=by
  simp only [Rows.uptoBulk,Rows.uptoBulkAll]
 refine ⟨⟨k,p,t,o,f⟩,?_,?_⟩
 ·exact ReadsL.cons (ReadsL.one hk) (ReadsL.cons (ReadsL.one hp) (ReadsL.cons (ReadsL.one ht) (ReadsL.cons (ReadsL.one ho) (ReadsL.cons (ReadsL.one hf) (ReadsL.nil _ _)))))
 ·show EditB (Rows.uptoBulk (DataW.agg [y0.1,y1.1,y2.1,y3.1,y4.1])) _
  rw [hB];refine ⟨by show p.size≤_;omega,by show t.size≤_;omega,fun d hd=>?_,fun d hd=>?_⟩
  ·obtain ⟨b,h1,h2⟩:=zMy io d hd
   exact ⟨b,by omega,h2⟩
  ·obtain ⟨b,h1,h2⟩:=zMy jf d hd
   exact ⟨b,by omega,h2⟩
end
theorem zOl {B:Nat} {d:ODecl} (h:DeclB B d) (hB:B≤4000000):BigD d:=⟨h.1.mono (by omega),by have:=h.2.1;omega,fun s hs=>by have:=h.2.2 s hs;omega⟩
theorem zVs {B:Nat} {e:OEdit} (h:EditB B e) (hB:B≤4000000):BigE e:=
 ⟨by have:=h.1;omega,by have:=h.2.1;omega,fun d hd=>by obtain ⟨b,h1,h2⟩:=h.2.2.1 d hd;exact zOl h2 (by omega),fun d hd=>by obtain ⟨b,h1,h2⟩:=h.2.2.2 d hd;exact zOl h2 (by omega)⟩
theorem yBz {w:World} {e:OEdit} {cs:List Value} (h:ReadsL w [] (editT e) cs):∃ao co af cf,cs=[.int .i64 e.kind,.string e.pack,.string e.text,.slice ao e.old.length co,.slice af e.fresh.length cf]∧EditIn w e ao co af cf:=by
  obtain ⟨ao,co,an,cn,h1,h2,h3,h4,h5,h6,h7⟩:=zGr h
  exact ⟨ao,co,an,cn,h1,⟨h4,h7,h2,h3,h5,h6⟩⟩
end Go.Proofs.YtfkjfdbjhlmjcaaGreatDoor
