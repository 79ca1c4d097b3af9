/- edit.applyOne. -/
import Derived.Test.YtfkjfdbjhlmjcaaGreatDoorXBI
set_option maxRecDepth 100000
set_option maxHeartbeats 16000000
namespace Go.Proofs.YtfkjfdbjhlmjcaaGreatDoor
open Go.RowKit Go.Shelf
attribute [local go_sem] Oper.semAt_some
def zB (M:Nat) (s:Nat→Nat):List Nat:=[M,s 0,s 1,s 2,s 3]
theorem EffMap.away {X:List Nat} {w w':World} {B M:Nat} {s:Nat→Nat} (h:EffMap w B M s) (m:Mod X w w') (hx:∀b∈X,b∉zB M s):EffMap w' B M s:=
 h.mod m (fun c=>hx _ c (by simp [zB])) (fun i hi c=>hx _ c (by
  match i,hi with
  | 0,_=>simp [zB]
  | 1,_=>simp [zB]
  | 2,_=>simp [zB]
  | 3,_=>simp [zB]))
theorem EffMap.zlt {w:World} {B M:Nat} {s:Nat→Nat} (h:EffMap w B M s):∀z∈zB M s,z<w.heap.size:=by
 intro z hz;unfold zB at hz;simp only [List.mem_cons,List.not_mem_nil,or_false] at hz
 rcases hz with rfl|rfl|rfl|rfl|rfl
 ·exact h.map.lt
 ·exact (h.box 0 (by omega)).lt
 ·exact (h.box 1 (by omega)).lt
 ·exact (h.box 2 (by omega)).lt
 ·exact (h.box 3 (by omega)).lt
theorem zSk (m:OMod) (e:OEdit):(inMod m e).1.label=m.label:=by
 unfold inMod
 repeat' split
 all_goals rfl
def OnePost (w0:World) (B M:Nat) (s:Nat→Nat) (ms:List MV) (e:OEdit) (r:Ending) (w':World):Prop:=
  ∃v',r=.returned (.tuple #[v',.int .i64 (oneL (ms.map MV.m) e).2])∧Below w0.heap.size w0 w'∧((oneL (ms.map MV.m) e).2=0→∃ms',ms'.map MV.m=(oneL (ms.map MV.m) e).1∧NowR w0 w' (zB M s) v' ms'∧EffMap w' B M s)
theorem zYx {w0 w':World} {B M:Nat} {s:Nat→Nat} {ms:List MV} {e:OEdit} {v':Value} {E:Int} (h:(oneL (ms.map MV.m) e).2=E) (hE:E≠0) (hb:Bw w0 w'):OnePost w0 B M s ms e (.returned (.tuple #[v',.int .i64 E])) w':=
 ⟨v',by rw [h],hb,fun c=>absurd (h.symm.trans c) hE⟩
theorem yF {w0 w':World} {B M:Nat} {s:Nat→Nat} {ms ms':List MV} {e:OEdit} {v':Value} {l:List OMod} (h:oneL (ms.map MV.m) e=(l,0)) (hl:ms'.map MV.m=l) (hN:NowR w0 w' (zB M s) v' ms') (hE:EffMap w' B M s):OnePost w0 B M s ms e (.returned (.tuple #[v',.int .i64 0])) w':=
 ⟨v',by rw [h],hN.old,fun _=>⟨ms',by rw [h];exact hl,hN,hE⟩⟩
theorem NowR.fresh {w0 w:World} {Z:List Nat} {v:Value} {ms:List MV} (h:NowR w0 w Z v ms):NowR w0 w (w.heap.size::Z) v ms:=by
 have key:∀b,b<w.heap.size→b∉Z→b∉w.heap.size::Z:=fun b hb hz c=>by
  rcases List.mem_cons.1 c with rfl|c
  ·exact Nat.lt_irrefl _ hb
  ·exact hz c
 exact ⟨h.old,h.own,h.mr,h.dis,fun b hb=>key b (h.lo b hb).2 (h.av.1 b hb),fun x hx=>⟨fun b hb=>key b ((h.mr x hx).lt.1 b hb) ((h.av.2 x hx).1 b hb),fun b hb=>key b ((h.mr x hx).lt.2 b hb) ((h.av.2 x hx).2 b hb)⟩⟩
theorem NowR.less {w0 w:World} {Z Y:List Nat} {v:Value} {ms:List MV} (h:NowR w0 w Z v ms) (hz:∀z∈Y,z∈Z):NowR w0 w Y v ms:=
 ⟨h.old,h.own,h.mr,h.dis,fun b hb c=>h.av.1 b hb (hz b c),fun x hx=>⟨fun b hb c=>(h.av.2 x hx).1 b hb (hz b c),fun b hb c=>(h.av.2 x hx).2 b hb (hz b c)⟩⟩
theorem zHk (L:List OMod) (a:Option Addr) (c:Nat) (w:World) (hr:Reads w [] (modsT L) (.slice a L.length c)) (hs:∀m∈L,SmM m) (hn:L.length≤1000000) :
  Calls Tryz.prog 34 #[.slice a L.length c] w fun r w'=>r=.returned (.int .i64 (testErr L))∧Bw w w':=by
 obtain ⟨T,hT⟩:∃T,testErr L=T:=⟨_,rfl⟩;have HE:Hid (T=nzFrom (fun i=>modErr (mAt L i)) L.length 0):=hT.symm;have HTT:=lH hT;have HR:=lH hr;have HSM:=lH hs;clear hT hr hs;generalize hf:(fun i=>modErr (mAt L i))=f at *;have HFF:Hid (∀i,f i=modErr (mAt L i)):=fun i=>by rw [←hf]
 clear hf
 go_enter Tryz.func34,Tryz.ntmps34
 go_wp2
 go_loopw [8] (fun iv wr=>∃k:Nat,k≤L.length∧iv=.int .i64 k∧Hid (T=nzFrom f L.length k)∧Bw w wr) (fun iv _=>L.length - (intOf iv).toNat)
 case atStart=>exact ⟨0,Nat.zero_le _,rfl,HE,zAl _⟩
 case round=>
  obtain ⟨k,hkl,rfl,HI,hb⟩:=hrel
  by_cases hi:k<L.length
  ·have hd:decide ((k:Int)<(L.length:Int))=true:=decide_eq_true (by omega)
   have hir:(k:Int)<(L.length:Int):=by omega
   obtain ⟨m,hmi⟩:∃m,L[k]?=some m:=⟨_,List.getElem?_eq_getElem hi⟩;obtain ⟨b,o,au,cu,ad,cd,rfl,hbl,x0',x1',x2',-,-,hru,-,-,hrd⟩:=zBz HR.o hmi;have hbr:b<wr.heap.size:=Nat.lt_of_lt_of_le hbl hb.size;have x0:=(hb.cell (p:=⟨b,_,none⟩) hbl).trans x0';have x1:=(hb.cell (p:=⟨b,_,none⟩) hbl).trans x1';have x2:=(hb.cell (p:=⟨b,_,none⟩) hbl).trans x2';have HN:=lH (HI.o.trans (zBn f hi));have hC0:=zAa wr (.cells (mA m au cu ad cd) 52);have hb3:=hb.trans (hC0.mono hb.size)
   have HBC:=lH (zMe m au cu ad cd _ (zAg.1 (hru.out.below hb3)).1 (hrd.out.below hb3) (HSM.o m (List.mem_of_getElem? hmi)));have hfk:f k=modErr m:=by rw [HFF.o,zF hmi]
   rw [hfk] at HN;clear x0' x1' x2' hru hrd HI hfk;unfold modV at HBC;generalize modErr m=q at *;go_wp2_with (fail)
   refine HBC.o.mono ?_;rintro r w4 ⟨rfl,hb4⟩;have hB4:=hb3.trans (hb4.mono hb3.size);clear HBC
   by_cases hq:q=0
   ·rw [if_pos hq] at HN
    have q3:(q != 0)=false:=by rw [hq];rfl
    clear hq;go_wp2;go_roundw
    case rel=>exact ⟨k+1,by omega,by go_num,HN,hB4⟩
    case measure=>simp [intOf];omega
   ·rw [if_neg hq] at HN
    have q3:(q != 0)=true:=by simp [hq]
    clear hq;go_wp2;go_ret;exact ⟨zAc (HN.o.symm.trans HTT.o.symm),hB4⟩
  ·have hd:decide ((k:Int)<(L.length:Int))=false:=decide_eq_false (by omega)
   have HN:=lH (HI.o.trans (zBg f (by omega)));go_wp2;go_ret;exact ⟨zAc (HN.o.symm.trans HTT.o.symm),hb⟩
theorem zEx (L:List OMod) (a:Option Addr) (c:Nat) (w:World) (hr:Reads w [] (modsT L) (.slice a L.length c)) (hs:∀m∈L,SmM m) (hn:L.length≤1000000) :
  Calls Tryz.prog 29 #[.slice a L.length c] w fun r w'=>r=.returned (.int .i64 (modsErr L))∧Bw w w':=by
 obtain ⟨T,hT⟩:∃T,modsErr L=T:=⟨_,rfl⟩;have HE:Hid (T=if nzFrom (ordAt L) L.length 0=0 then testErr L else 10):=hT.symm;have HTT:=lH hT;have HR:=lH hr;have HEA:Hid (∀w',Bw w w'→Calls Tryz.prog 34 #[.slice a L.length c] w' fun r w''=>r=.returned (.int .i64 (testErr L))∧Below w'.heap.size w' w''):=fun w' h=>zHk L a c w' (hr.below h) hs hn;clear hT hr hs;generalize testErr L=Q at *;generalize hf:ordAt L=f at *;have HFF:Hid (∀i,f i=ordAt L i):=fun i=>by rw [←hf]
 clear hf
 go_enter Tryz.func29,Tryz.ntmps29
 go_wp2
 go_loopw [6] (fun iv wr=>∃k:Nat,k≤L.length∧iv=.int .i64 k∧Hid (T=if nzFrom f L.length k=0 then Q else 10)∧Bw w wr) (fun iv _=>L.length - (intOf iv).toNat)
 case atStart=>exact ⟨0,Nat.zero_le _,rfl,HE,zAl _⟩
 case round=>
  obtain ⟨k,hkl,rfl,HI,hb⟩:=hrel
  by_cases hi:k<L.length
  ·have hd:decide ((k:Int)<(L.length:Int))=true:=decide_eq_true (by omega)
   have hir:(k:Int)<(L.length:Int):=by omega
   obtain ⟨m,hmi⟩:∃m,L[k]?=some m:=⟨_,List.getElem?_eq_getElem hi⟩;have HN:=HI;rw [zBn f hi] at HN;have hfk:=HFF.o k;unfold ordAt at hfk;rw [zF hmi] at hfk;obtain ⟨b,o,au,cu,ad,cd,rfl,hbl,x0',-,-,-,-,-,-,-,-⟩:=zBz HR.o hmi;have hbr:b<wr.heap.size:=Nat.lt_of_lt_of_le hbl hb.size;have x0:=(hb.cell (p:=⟨b,_,none⟩) hbl).trans x0';clear x0' HI
   by_cases hk0:k=0
   ·rw [if_neg (by omega)] at hfk
    rw [hfk,if_pos rfl] at HN;have hg:decide ((0:Int)<(k:Int))=false:=decide_eq_false (by omega);clear hfk hg;subst hk0;have hd0:decide ((0:Int)<((0:Nat):Int))=false:=rfl;go_wp2_with (fail)
    go_quiet (fail)
    go_wp2;go_roundw
    case rel=>exact ⟨1,by omega,by go_num,HN,below_drewN hb _⟩
    case measure=>simp [intOf];omega
   ·obtain ⟨j,rfl⟩:∃j,k=j+1:=⟨k - 1,by omega⟩
    obtain ⟨p,hpj⟩:∃p,L[j]?=some p:=⟨_,List.getElem?_eq_getElem (by omega)⟩;obtain ⟨b',o',au',cu',ad',cd',e',-,y0',-,-,-,-,-,-,-,-⟩:=zBz HR.o hpj
    injection e' with e'
    injection e' with e1 e2
    subst e1 e2;have y0:=(hb.cell (p:=⟨b,_,none⟩) hbl).trans y0';clear y0';rw [Nat.add_sub_cancel,zF hpj] at hfk;obtain ⟨q,hq⟩:∃q,ltB p.label m.label=q:=⟨_,rfl⟩;rw [hq] at hfk;have hq':Op.bytesLess p.label.toList m.label.toList=q:=hq;have hd0:decide ((0:Int)<(j:Int)+1)=true:=decide_eq_true (by omega);have hw1:IntKind.i64.wrap ((j:Int)+1 - 1)=(j:Int):=by rw [Int.add_sub_cancel];exact IntWalk.i64_in _ (by omega)
    have hj1:(j:Int)<(L.length:Int):=by omega
    have hj2:(j:Int)+1<(L.length:Int):=by omega
    clear hq;have hq2:Hid (ltB p.label m.label=q):=hq'
    cases q with
    | true=>
     have hle1:Op.bytesLess m.label.toList p.label.toList=false:=by
      cases hc:Op.bytesLess m.label.toList p.label.toList with
      | false=>rfl
      | true=>exact absurd (zOa.tr hq2.out hc) (by rw [zOa.irr];decide)
     have hle2:(m.label.toList==p.label.toList)=false:=yDf (fun c=>zEu zOa hq2.out c.symm);clear hq' hq2;rw [if_neg (by simp)] at hfk;rw [hfk,if_pos rfl] at HN;clear hfk hpj hmi;generalize p.label=t at *;generalize m.label=s at *;go_wp2_with (fail)
     go_quiet (fail)
     go_wp2;go_roundw
     case rel=>exact ⟨j+1+1,by omega,by go_num,HN,below_drewN hb _⟩
     case measure=>simp [intOf];omega
    | false=>
     rw [if_pos ⟨by omega,rfl⟩] at hfk;rw [hfk,if_neg (by rw [if_neg (by decide)];decide)] at HN
     have hor:(Op.bytesLess m.label.toList p.label.toList=true∧(m.label.toList==p.label.toList)=false)∨(Op.bytesLess m.label.toList p.label.toList=false∧(m.label.toList==p.label.toList)=true):=by
      cases hc:ltB m.label p.label with
      | true=>exact .inl ⟨hc,yDf (fun c=>zEu zOa hc c)⟩
      | false=>
       have:m.label=p.label:=zOa.tot hc hq2.out;exact .inr ⟨hc,by rw [this];exact beq_self_eq_true _⟩
     clear hfk hpj hmi hq' hq2;generalize p.label=t at *;generalize m.label=s at *
     rcases hor with ⟨hle1,hle2⟩|⟨hle1,hle2⟩
     ·go_wp2_with (fail)
      go_quiet (fail)
      go_wp2;go_ret;exact ⟨zAc (HN.o.symm.trans HTT.o.symm),below_drewN hb _⟩
     ·go_wp2_with (fail)
      go_quiet (fail)
      go_wp2;go_ret;exact ⟨zAc (HN.o.symm.trans HTT.o.symm),below_drewN hb _⟩
  ·have hd:decide ((k:Int)<(L.length:Int))=false:=decide_eq_false (by omega)
   have HN:=HI;rw [zBg f (by omega),if_pos rfl] at HN;clear HI;go_wp2_with (fail)
   refine (HEA.o wr hb).mono ?_;rintro r w1 ⟨rfl,hb1⟩;have hB1:=hb.trans (hb1.mono hb.size);clear hb1;go_wp2;go_ret;exact ⟨zAc (HN.o.symm.trans HTT.o.symm),hB1⟩
end Go.Proofs.YtfkjfdbjhlmjcaaGreatDoor
namespace Go.Proofs.YtfkjfdbjhlmjcaaGreatDoor
open Go.RowKit Go.Shelf
attribute [local go_sem] Oper.semAt_some zKm zKn
theorem yBx:(Tryz.prog.info? 52).map (fun i=>(i.zero,i.size,i.bytes))=some (some (.agg #[.string ⟨#[]⟩,.slice none 0 0,.slice none 0 0]),3,64):=by kernel_rfl
theorem zYy {P:Program} {e:TypeId} {z:Value} {sz b:Nat} (h:(P.info? e).map (fun i=>(i.zero,i.size,i.bytes))=some (some z,sz,b)):∃i,P.info? e=some i∧i.zero=some z∧i.size=sz∧i.bytes=b:=by
 obtain ⟨i,hi,h2⟩:=Option.map_eq_some_iff.1 h
 injection h2 with e1 e2
 injection e2 with e2 e3
 exact ⟨i,hi,e1,e2,e3⟩
def noMV:MV:=newMV ⟨#[]⟩
theorem zYz (n:Nat):(madeCells mZ (n * 3)).toList=(List.replicate n noMV).flatMap mvC:=by
 unfold madeCells;rw [Array.toList_map,Array.toList_range]
 induction n with
 | zero=>rfl
 | succ n ih=>
  rw [show (n+1) * 3=n * 3+1+1+1 by omega,List.range_succ,List.range_succ,List.range_succ,List.map_append,List.map_append,List.map_append,ih,List.replicate_succ',List.flatMap_append,List.append_assoc,List.append_assoc]
  congr 1
  have h0:n * 3 % 3=0:=by omega
  have h1:(n * 3+1) % 3=1:=by omega
  have h2:(n * 3+1+1) % 3=2:=by omega
  simp only [List.map_cons,List.map_nil,List.size_toArray,List.length_cons,List.length_nil,Nat.zero_add,Nat.reduceAdd,h0,h1,h2]
  rfl
theorem NowR.made {w0 w:World} (hb:Bw w0 w) (n:Nat) (hn:n≤maxLen) :
  NowR w0 (w.alloc (.cells (madeCells mZ (n * 3)) 52)) [] (.slice (some ⟨w.heap.size,0,none⟩) n n) (List.replicate n noMV):=by
 refine ⟨zA hb (zAa _ _),⟨?_,.inr ⟨w.heap.size,n,_,by rw [List.length_replicate],hb.size,heap_alloc_new w _,by rw [List.length_replicate];exact Nat.le_refl _,hn,size_madeCells _ _,?_⟩⟩,fun x hx=>?_,?_,fun _ _ c=>(List.not_mem_nil c).elim,fun _ _=>⟨fun _ _ c=>(List.not_mem_nil c).elim,fun _ _ c=>(List.not_mem_nil c).elim⟩⟩
 ·rw [zDd]
 ·rw [zYz,List.take_of_length_le (by rw [zDd];exact Nat.le_refl _)]
 ·rw [List.eq_of_mem_replicate hx];exact MR.nil _
 ·rw [List.pairwise_iff_getElem]
  intro i j hi hj hij;rw [List.getElem_replicate,List.getElem_replicate];exact ⟨fun b hb=>yDy hb,fun b hb=>yDz hb⟩
theorem zSl {w0 w:World} {p x:MV} (hp:MR w0 w p) (hu:∀b∈blk x.u,w.heap.size≤b) (hd:∀b∈blk x.d,w.heap.size≤b):Apart p x:=
 ⟨fun b hb c=>absurd (hp.lt.1 b hb) (Nat.not_lt.2 (hu b c)),fun b hb c=>absurd (hp.lt.2 b hb) (Nat.not_lt.2 (hd b c))⟩
theorem NowR.put {w0 w:World} {ms:List MV} {g c i:Nat} (h:NowR w0 w [] (.slice (some ⟨g,0,none⟩) ms.length c) ms) (hi:i<ms.length) (x:MV) (hx:MR w0 w x) (hn:∀p∈ms,Apart p x) :
    NowR w0 (((w.setCell ⟨g,i * 3,none⟩ (.string x.m.label)).setCell ⟨g,i * 3+1,none⟩ x.u).setCell ⟨g,i * 3+2,none⟩ x.d) [] (.slice (some ⟨g,0,none⟩) ms.length c) (ms.set i x):=by
  obtain ⟨y,hy⟩:∃y,ms[i]?=some y:=⟨_,List.getElem?_eq_getElem hi⟩
  obtain ⟨P,R,rfl,rfl⟩:=zKo hy
  have e1:(P++y::R).set P.length x=P++x::R:=by rw [List.set_append_right _ _ (Nat.le_refl _)];simp
  have e2:(P++x::R).length=(P++y::R).length:=by simp
  rw [e1]
  have hW:=h.own
  rw [zEw] at hW
  have h1:=zFl hW (P.length * 3+0) (.string x.m.label)
  rw [zDh _ _ _ _ 0 _ (by rw [zDd]) (by show _<3;omega)] at h1
  have h2:=zFl h1 (P.length * 3+1) x.u
  rw [zDh _ _ _ _ 1 _ (by rw [zDd]) (by rw [List.length_set];show _<3;omega)] at h2
  have h3:=zFl h2 (P.length * 3+2) x.d
  rw [zDh _ _ _ _ 2 _ (by rw [zDd]) (by rw [List.length_set,List.length_set];show _<3;omega)] at h3
  have hm:Mod [g] w (((w.setCell ⟨g,P.length * 3,none⟩ (.string x.m.label)).setCell ⟨g,P.length * 3+1,none⟩ x.u).setCell ⟨g,P.length * 3+2,none⟩ x.d):=(((Mod.refl [g] w).setCell (by simp) _).setCell (by simp) _).setCell (by simp) _
  have hlo:=h.lo g (zBd.2 rfl)
  have hgo:∀p,MR w0 w p→MR w0 _ p:=fun p k=>k.off h.own hm
  refine ⟨h.old.trans (hm.upto h.old.size fun b hb=>by simp at hb;rw [hb];exact hlo.1),?_,fun p hp=>?_,?_,fun _ _ c=>(List.not_mem_nil c).elim,fun _ _=>⟨fun _ _ c=>(List.not_mem_nil c).elim,fun _ _ c=>(List.not_mem_nil c).elim⟩⟩
  · rw [e2,zEw];exact h3
  · rcases List.mem_append.1 hp with hp|hp
    · exact hgo p (h.mr p (by simp [hp]))
    · rcases List.mem_cons.1 hp with rfl|hp
      · exact hgo _ hx
      · exact hgo p (h.mr p (by simp [hp]))
  · have hd0:=h.dis
    rw [List.pairwise_append,List.pairwise_cons] at hd0 ⊢
    refine ⟨hd0.1,⟨fun p hp=>(hn p (by simp [hp])).symm,hd0.2.1.2⟩,fun p hp q hq=>?_⟩
    rcases List.mem_cons.1 hq with rfl|hq
    · exact hn p (by simp [hp])
    · exact hd0.2.2 p hp q (List.mem_cons_of_mem _ hq)
theorem NowR.later {w0 w:World} {Z:List Nat} {v:Value} {ms:List MV} (h:NowR w0 w [] v ms) (hz:∀z∈Z,w.heap.size≤z):NowR w0 w Z v ms:=
 ⟨h.old,h.own,h.mr,h.dis,fun b hb c=>absurd (h.lo b hb).2 (Nat.not_lt.2 (hz b c)),fun x hx=>⟨fun b hb c=>absurd ((h.mr x hx).lt.1 b hb) (Nat.not_lt.2 (hz b c)),fun b hb c=>absurd ((h.mr x hx).lt.2 b hb) (Nat.not_lt.2 (hz b c))⟩⟩
theorem zZ (w0:World) (l:List ODecl) (a:Option Addr) (c:Nat) (w:World) (hl0:Reads w0 [] (declsT l) (.slice a l.length c)) (hw:Bw w0 w) (hn:l.length≤1000000) :
  Calls Tryz.prog 31 #[.slice a l.length c] w fun r w'=>∃v xs,r=.returned v∧w'.ownsRow w.heap.size 62 11 v l.length xs∧ReadsL w0 [] (l.flatMap declT) xs∧Bw w w':=by
 obtain ⟨xs,hr0,-,hx⟩:=Reads.toRow hl0;have hr:=hr0.below hw;have hl:=hl0.below hw;obtain ⟨i0,z,hi,hz0,hzs,hz1,hz2⟩:=zBh zHc;have HR:=lH hr;have HX:=lH hx;have HO:=lH (zDp hx);have HW:=lH hw;clear hl0 hr0 hw
 rcases Nat.eq_zero_or_pos l.length with h0|h0
 ·obtain rfl:l=[]:=List.eq_nil_of_length_eq_zero h0
  have hxn:xs=[]:=by have:=hx.len;simpa using this
  subst hxn;clear hl hr hx h0 HR HO
  cases a with
  | none=>
   go_enter Tryz.func31,Tryz.ntmps31
   go_wp2;go_ret;exact ⟨_,_,rfl,World.ownsRow_nil _ _ _ _,HX.o,zAl _⟩
  | some ad=>
   go_enter Tryz.func31,Tryz.ntmps31
   go_wp2;go_ret;exact ⟨_,_,rfl,World.ownsRow_made w #[] 0 (Nat.le_refl _) (Nat.zero_le _) rfl,HX.o,zAa _ _⟩
 ·obtain ⟨b,o,-,-,-,-,rfl,hbl,-⟩:=zAv hl (List.getElem?_eq_getElem h0)
  have hown0:(w.alloc (.cells #[] 62)).ownsRow w.heap.size 62 11 (.slice (some ⟨w.heap.size,0,none⟩) 0 0) 0 []:=World.ownsRow_made w #[] 0 (Nat.le_refl _) (Nat.zero_le _) rfl;have hA0:=zAa w (.cells #[] 62);clear hl hr hx
  go_enter Tryz.func31,Tryz.ntmps31
  go_wp2_with (at_builtin;refine zAd rfl _ _ 37 rfl w.heap.size 62 i0 _ 11 136 Tryz.underlying37 hi hz0 hz1 hz2 hzs (by decide) _ _ _ rfl hown0 _ _ _ rfl (HR.o.below hA0) HO.o (by unfold maxLen;omega) (by omega) (by simp) ?_)
  intro v1 w1 hown1 hg1 hb1;have hB1:Bw w w1:=hA0.grown hg1 (by simp) (fun k hk=>by cases hk;exact Nat.le_refl _);go_wp2;go_ret;exact ⟨_,_,rfl,by simpa using hown1,HX.o,hB1⟩
end Go.Proofs.YtfkjfdbjhlmjcaaGreatDoor
namespace Go.Proofs.YtfkjfdbjhlmjcaaGreatDoor
open Go.RowKit Go.Shelf
attribute [local go_sem] Oper.semAt_some
def AppPost (w:World) (l:List OMod) (es:List OEdit) (r:Ending) (w':World):Prop:=
  ∃v,r=.returned (.tuple #[v,.int .i64 (appR l es).2])∧Reads w' [] (modsT (appR l es).1) v∧Below w.heap.size w w'
theorem zOf {w w':World} {l:List OMod} {es:List OEdit} {E:Int} (h:appR l es=([],E)) (hb:Bw w w'):AppPost w l es (.returned (.tuple #[.slice none 0 0,.int .i64 E])) w':=
 ⟨_,by rw [h],by rw [h];exact Reads.nilRow _ _ _ _,hb⟩
theorem yBy {w w':World} {l L:List OMod} {es:List OEdit} {v:Value} (h:appR l es=(L,0)) (hr:Reads w' [] (modsT L) v) (hb:Bw w w'):AppPost w l es (.returned (.tuple #[v,.int .i64 0])) w':=
 ⟨_,by rw [h],by rw [h];exact hr,hb⟩
theorem zZa {l:List OMod} {es:List OEdit} (h:modsErr l≠0):appR l es=([],modsErr l):=by unfold appR;rw [if_neg h]
theorem zTz {l:List OMod} {es:List OEdit} (h:modsErr l=0) (h1:(runL l es).2≠0):appR l es=([],(runL l es).2):=by unfold appR;rw [if_pos h,if_neg h1]
theorem zZb {l L:List OMod} {es:List OEdit} (h:modsErr l=0) (h1:runL l es=(L,0)) (h2:testErr L≠0):appR l es=([],testErr L):=by unfold appR;rw [if_pos h,h1];simp only [if_true];rw [if_neg h2]
theorem zZc {l L:List OMod} {es:List OEdit} (h:modsErr l=0) (h1:runL l es=(L,0)) (h2:testErr L=0):appR l es=(L,0):=by unfold appR;rw [if_pos h,h1];simp only [if_true];rw [if_pos h2]
theorem zMt {w:World} {B B':Nat} {e:TypeId} {s n:Nat} {v:Value} {xs:List Value} (h:w.ownsRow B e s v n xs) (hb:B'≤B):w.ownsRow B' e s v n xs:=by
 obtain ⟨h1,h2⟩:=h;refine ⟨h1,?_⟩
 rcases h2 with h2|⟨g,cap,cur,h3,h4,h5⟩
 ·exact .inl h2
 ·exact .inr ⟨g,cap,cur,h3,Nat.le_trans hb h4,h5⟩
theorem NowR.frz {w0 w:World} {Z:List Nat} {ms:List MV} {g n c:Nat} (h:NowR w0 w Z (.slice (some ⟨g,0,none⟩) n c) ms) (q:Nat):w.frozen? ⟨g,q,none⟩=false:=by
 rcases h.own.2 with ⟨e,-⟩|⟨g',cap,cur,e,-,hh,-⟩
 ·cases e
 ·injection e with e1 e2 e3
  injection e1 with e1
  injection e1 with e1
  subst e1;exact CBox.frozen (B:=g) hh q
theorem yBz {α:Type} {l:List α} {i:Nat} {x:α} (h:l[i]?=some x):l.drop i=x::l.drop (i+1):=by
 obtain ⟨hi,e⟩:=List.getElem?_eq_some_iff.1 h;rw [←e];exact List.drop_eq_getElem_cons hi
theorem zDy {α:Type} {l:List α} {i:Nat} {x:α} (h:l[i]?=some x):l.take (i+1)=l.take i++[x]:=by
 obtain ⟨hi,e⟩:=List.getElem?_eq_some_iff.1 h;rw [←e];exact (List.take_append_getElem hi).symm
end Go.Proofs.YtfkjfdbjhlmjcaaGreatDoor
