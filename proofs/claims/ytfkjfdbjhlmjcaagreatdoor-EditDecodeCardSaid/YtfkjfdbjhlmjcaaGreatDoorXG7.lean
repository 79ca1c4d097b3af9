/- append of a whole slice, nil, empty or not; rows of elements of several cells that the. -/
import Derived.Test.YtfkjfdbjhlmjcaaGreatDoorXTA
namespace Go.Proofs.YtfkjfdbjhlmjcaaGreatDoor
open Go.RowKit
section
variable {P:Program} {w:World}
theorem zJy (base:Nat) (t ty e:TypeId) (i:TypeInfo) (size:Nat) (ht:P.underlying t=some (.slice e)) (hi:P.info? e=some i) (v:Value) (n:Nat) (xs:List Value) (hown:w.ownsRow base e size v n xs) (c:Nat) :
  (Builtin.append_ #[t,t] ty #[v,.slice none 0 c]).run P w=.ok v w:=by
 rcases hown.2 with ⟨rfl,_⟩|⟨g,cap,cur,rfl,_,_,hle,_⟩
 ·simp [Builtin.append_,run_underlying ht,sizeOf,typeInfo,hi,Builtin.lenOf,Builtin.firstCells]
 ·simp [Builtin.append_,run_underlying ht,sizeOf,typeInfo,hi,Builtin.lenOf,Builtin.firstCells,hle,storeCells]
theorem zE (base:Nat) (t ty e:TypeId) (i:TypeInfo) (z:Value) (size bytes:Nat) (ht:P.underlying t=some (.slice e)) (hi:P.info? e=some i) (hz:i.zero=some z)
  (hsize:i.size=size) (hby:i.bytes=bytes) (hzs:z.cells.size=size) (hsz:0<size)
  (v:Value) (n:Nat) (xs:List Value) (hown:w.ownsRow base e size v n xs) (sv:Value) (m:Nat) (news:List Value) (hr:IsRow w size sv m news) (h1:∀u∈news,u.oneCell'=true)
  (h63:n+m≤maxLen) (hbytes:(n+m) * bytes≤140737488355328) (hbase:base≤w.heap.size) :
  ∃v' w',(Builtin.append_ #[t,t] ty #[v,sv]).run P w=.ok v' w'∧w'.ownsRow base e size v' (n+m) (xs++news)∧w.grownBy w' v.ownBlock∧(v'.ownBlock=v.ownBlock∨v'.ownBlock=some w.heap.size):=by
 obtain ⟨hl,a,cap,rfl,hle,hm,h3⟩:=hr
 cases a with
 | none=>
  have hm0:m=0:=by
   rcases Nat.eq_zero_or_pos m with h|h
   ·exact h
   ·obtain ⟨b,o,e,_⟩:=h3 h;cases e
  subst hm0;obtain rfl:news=[]:=List.eq_nil_of_length_eq_zero (by simpa using hl);exact ⟨v,w,zJy base t ty e i size ht hi v n xs hown cap,by simpa using hown,⟨rfl,rfl,rfl,Nat.le_refl _,fun _ _ _=>rfl⟩,.inl rfl⟩
 | some ad=>
  have hcells:∀j u,news[j]?=some u→w.cell? (ad.add j)=some u:=fun j u hj=>by
   have hj':j<m * size:=by rw [←hl];exact (List.getElem?_eq_some_iff.1 hj).1
   have hm0:0<m:=Nat.pos_of_ne_zero (fun e=>by rw [e] at hj';omega);obtain ⟨b,o,e,_,hc⟩:=h3 hm0
   cases e
   have:=hc j u hj
   by_cases h0:j=0
   ·subst h0;simpa [Addr.add] using this
   ·simpa [Addr.add,h0] using this
  obtain ⟨v',w',hrun,h2,h4,_,h5⟩:=run_append_own_at (P:=P) w base t ty e i z size bytes ht hi hz hsize hby hzs hsz v n xs hown ad m cap news hl hcells h1 h63 hbytes hbase;exact ⟨v',w',hrun,h2,h4,h5⟩
theorem zAd {ops:Array Oper} {rest:List Oper} {o:Oper} {a:Act} {Q:Exit→Act→World→Prop} (hgd:o.guard=none) (s x:Operand) (t:TypeId)
  (ho:o.op=.call { callee:=.builtin .append,args:=#[s,x],argTypes:=#[t,t] })
  (base:Nat) (e:TypeId) (i:TypeInfo) (z:Value) (size bytes:Nat) (ht:P.underlying t=some (.slice e)) (hi:P.info? e=some i) (hz:i.zero=some z)
  (hsize:i.size=size) (hby:i.bytes=bytes) (hzs:z.cells.size=size) (hsz:0<size)
  (v:Value) (n:Nat) (xs:List Value) (hs:a.eval s=v) (hown:w.ownsRow base e size v n xs)
  (sv:Value) (m:Nat) (news:List Value) (hx:a.eval x=sv) (hr:IsRow w size sv m news) (h1:∀u∈news,u.oneCell'=true)
  (h63:n+m≤maxLen) (hbytes:(n+m) * bytes≤140737488355328) (hbase:base≤w.heap.size)
  (h:∀v' w',w'.ownsRow base e size v' (n+m) (xs++news)→w.grownBy w' v.ownBlock→(v'.ownBlock=v.ownBlock∨v'.ownBlock=some w.heap.size)→wpList P ops Q rest (a.put o.dst v') w') :
  wpList P ops Q (o::rest) a w:=by
 refine wpList_plain hgd fun K hK=>?_;obtain ⟨v',w',hrun,h2,h3,h4⟩:=zE (P:=P) base t o.type e i z size bytes ht hi hz hsize hby hzs hsz v n xs hown sv m news hr h1 h63 hbytes hbase;unfold Oper.wp execOp;simp only [ho,resolve,invoke,builtin,Sem.run_bind,Sem.run_pure,Result.andThen_ok,List.map_toArray,List.map_cons,List.map_nil,hs,hx,hrun]
 exact hK _ _ (h v' w' h2 h3 h4)
end
section
variable {w:World} {B:Nat} {e:TypeId} {n cap sz:Nat} {ad:Option Addr} {xs us:List Value}
theorem zCo (h:w.ownsRow B e sz (.slice ad n cap) n xs) (hn:0<n) :
  ∃g cur,ad=some ⟨g,0,none⟩∧(∀i u,xs[i]?=some u→w.cell? ⟨g,i,none⟩=some u)∧B≤g∧g<w.heap.size∧(∀i,w.frozen? ⟨g,i,none⟩=false)∧n≤cap∧cap≤9223372036854775807∧w.heap[g]?=some (.cells cur e (0,0)):=by
 obtain ⟨hl,h2⟩:=h
 rcases h2 with ⟨hv,rfl⟩|⟨g,cap',cur,hv,hg,hh,hn',hc,hs,ht⟩
 ·omega
 ·injection hv with e1 e2 e3
  subst e1 e3;have hlt:=(Array.getElem?_eq_some_iff.1 hh).1;refine ⟨g,cur,rfl,fun i u hi=>?_,hg,hlt,fun i=>CBox.frozen (B:=g) hh i,hn',by unfold maxLen at hc;omega,hh⟩;have hix:i<xs.length:=(List.getElem?_eq_some_iff.1 hi).1;rw [←ht,List.getElem?_take,if_pos (by omega)] at hi;have hi':cur[i]?=some u:=by rw [←Array.getElem?_toList];exact hi
  exact CBox.cell (B:=g) hh hi'
theorem zPj {g:Nat} (h:w.ownsRow B e sz (.slice (some ⟨g,0,none⟩) (n+1) cap) (n+1) (xs++us)) (hn:xs.length=n * sz):w.ownsRow B e sz (.slice (some ⟨g,0,none⟩) n cap) n xs:=by
 obtain ⟨hl,h2⟩:=h
 rcases h2 with ⟨hv,h0⟩|⟨g',cap',cur,hv,hg,hh,hn',hc,hs,ht⟩
 ·omega
 ·injection hv with e1 e2 e3
  injection e1 with e1
  injection e1 with e1
  subst e1 e3;refine ⟨hn,.inr ⟨g,cap,cur,rfl,hg,hh,by omega,hc,hs,?_⟩⟩;have:=congrArg (List.take (n * sz)) ht;rw [List.take_take,show min (n * sz) ((n+1) * sz)=n * sz by rw [Nat.add_mul];omega] at this;rw [this,←hn,List.take_left]
end
theorem zV {w:World} {X:List Nat} {y:Ex} {l:List Ex} {xs:List Value} (h:ReadsL w X ((l++[y]).flatMap exprT) xs) :
  ∃(ys:List Value) (a:Option Addr) (c:Nat),xs=ys++[.int .i64 y.kind,.string y.name,.string y.more,.int .i64 y.num,.int .i64 y.den,.slice a y.subs.length c]∧ys.length=l.length * 6∧ReadsL w X (l.flatMap exprT) ys∧y.subs.length≤c∧c≤9223372036854775807∧Reads w X (subsT y.subs) (.slice a y.subs.length c):=by
 have hl:=h.len;have h1:=h.take (l.length * 6);have h2:=h.drop (l.length * 6);have hll:(l.flatMap exprT).length=l.length * 6:=zEj zEd l;rw [List.flatMap_append,List.take_left' hll] at h1;rw [List.flatMap_append,List.drop_left' hll,List.flatMap_cons,List.flatMap_nil,List.append_nil] at h2;obtain ⟨a,c,e,h3,h4,h5⟩:=zHx h2;exact ⟨xs.take (l.length * 6),a,c,by rw [←e,List.take_append_drop],by rw [h1.len,hll],h1,h3,h4,h5⟩
theorem zXk {w:World} {X:List Nat}:∀{l:List Ex} {xs:List Value},ReadsL w X (l.flatMap exprT) xs→∀u∈xs,u.oneCell'=true:=by
 intro l
 induction l with
 | nil=>intro xs h;rw [List.flatMap_nil,ReadsL] at h;subst h;intro u hu;cases hu
 | cons y r ih=>
  intro xs h u hu;rw [List.flatMap_cons] at h;have h1:=h.take 6;have h2:=h.drop 6;rw [List.take_left' (zEd y)] at h1;rw [List.drop_left' (zEd y)] at h2;rw [←List.take_append_drop 6 xs,List.mem_append] at hu
  rcases hu with hu|hu
  ·obtain ⟨a,c,e,_⟩:=zHx h1
   rw [e] at hu;simp only [List.mem_cons,List.not_mem_nil,or_false] at hu
   rcases hu with rfl|rfl|rfl|rfl|rfl|rfl<;>rfl
  ·exact ih h2 u hu
end Go.Proofs.YtfkjfdbjhlmjcaaGreatDoor
