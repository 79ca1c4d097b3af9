/- Small lemmas; rows of cells, data in memory, maps of strings, slices that the call owns. -/
import Derived.Lib.Hide
import Derived.Lib.IndexBytes
import Derived.OpenShut
import Derived.RangeFuncNested
import Derived.WalkLawsBesides
import Derived.WalkSpells
import Derived.Test.YtfkjfdbjhlmjcaaGreatDoorProg
import Derived.LoopIn
import Derived.LoopNIn
import Derived.OwnWalkIn
import Derived.RangeFuncBound
import Derived.Shelf.RegionOpen
set_option maxRecDepth 100000
namespace Go.Proofs.YtfkjfdbjhlmjcaaGreatDoor
open Go.RowKit
abbrev Bw (w w':World):Prop:=Below w.heap.size w w'
theorem gA {α:Type} (xs:List α) (i:Nat) (h:i<xs.toArray.size):xs.toArray[i]=xs[i]'(by simpa using h):=List.getElem_toArray ..
theorem gB {α:Type} (a:α) (ys:List α) (i:Nat) (h:i+1<(a::ys).length):(a::ys)[i+1]=ys[i]'(Nat.lt_of_succ_lt_succ h):=List.getElem_cons_succ ..
theorem gC {α:Type} (a:α) (ys:List α) (h:0<(a::ys).length):(a::ys)[0]=a:=rfl
theorem gD {α:Type} (ys:List α) (i:Nat) (a:α):ys.toArray.setIfInBounds i a=(ys.set i a).toArray:=List.setIfInBounds_toArray ..
theorem gE {α:Type} (x:α) (xs:List α) (a:α):(x::xs).set 0 a=a::xs:=rfl
theorem gF {α:Type} (x:α) (xs:List α) (n:Nat) (a:α):(x::xs).set (n+1) a=x::xs.set n a:=rfl
theorem _root_.Go.RowKit.Hid.o {p:Prop}(h:Go.RowKit.Hid p):p:=h.out
theorem lH {p:Prop} (h:p):Hid p:=h
theorem inC {n:Nat} {X:List Nat}:∀k,k∈[n]→k∈n::X:=fun _ hk=>by rw [List.mem_singleton.1 hk];exact List.mem_cons_self ..
theorem inT {n:Nat} {X:List Nat}:∀k,k∈X→k∈n::X:=fun _ hk=>List.mem_cons_of_mem _ hk
theorem zAc {k:IntKind} {a b:Int} (h:a=b):Ending.returned (.int k a)=.returned (.int k b):=by rw [h]
theorem zAb {a b:Bool} (h:a=b):Ending.returned (.bool a)=.returned (.bool b):=by rw [h]
theorem yFe {W w1:World} (hb:Bw W w1):(∀b o,b<W.heap.size→w1.cell? ⟨b,o,none⟩=W.cell? ⟨b,o,none⟩)∧(∀b o,b<W.heap.size→w1.frozen? ⟨b,o,none⟩=W.frozen? ⟨b,o,none⟩):=
 ⟨fun b o h=>hb.cell (p:=⟨b,o,none⟩) h,fun b o h=>hb.frozen (p:=⟨b,o,none⟩) h⟩
theorem sz (s:ByteArray):s.data.toList.length=s.size:=by simp
theorem zHu (s:ByteArray) (i:Nat) (h:i<s.size):s.data.toList.getD i 0=s[i]:=by
 rw [List.getD_eq_getElem?_getD,List.getElem?_eq_getElem (by simpa using h)];rfl
theorem yDi (s:ByteArray) (a b:Nat):(s.extract a b).data.toList=(s.data.toList.drop a).take (b - a):=Lib.extract_data s a b
theorem yDc (s:ByteArray) (a:Nat):(s.extract a s.size).data.toList=s.data.toList.drop a:=Lib.extract_to_end s a
theorem zRh (s:ByteArray) (b:Nat):(s.extract 0 b).data.toList=s.data.toList.take b:=by rw [yDi];simp
theorem tl (s:ByteArray):s.toList=s.data.toList:=ByteArray.toList_eq s
theorem zA {a b c:World} (h:Bw a b) (k:Bw b c):Bw a c:=h.trans (k.mono h.size)
theorem zAa (w:World) (o:Obj):Bw w (w.alloc o):=(Below.refl _ _).alloc (Nat.le_refl _) o
theorem zJb (w:World) (a b:Addr) (v:Value) (h:b.block≠a.block):(w.setCell a v).cell? b=w.cell? b:=World.cell?_of_block (Below.heap_setCell w a v b.block h)
theorem zUv (w:World) (a b:Addr) (v:Value):(w.setCell a v).frozen? b=w.frozen? b:=by rw [World.frozen?_setCell]
theorem zAl (w:World):Bw w w:=Below.refl _ _
end Go.Proofs.YtfkjfdbjhlmjcaaGreatDoor
namespace Go.Proofs.YtfkjfdbjhlmjcaaGreatDoor
def isLet (c:Int):Bool:=decide (97≤c) && decide (c≤122)
def isDig (c:Int):Bool:=decide (48≤c) && decide (c≤57)
def okAt (i:Nat) (c:UInt8):Bool:=isLet c.toNat || (i != 0 && isDig c.toNat)
def wordB (l:List UInt8):Bool:=(List.range l.length).all fun i=>okAt i (l.getD i 0)
def wordN (n:Nat) (l:List UInt8):Bool:=decide (1≤l.length) && decide (l.length≤n) && wordB l
theorem zGq (l:List UInt8):wordB l=true↔∀i,i<l.length→okAt i (l.getD i 0)=true:=by
 simp [wordB]
theorem zRi {l:List UInt8} {i:Nat} (hi:i<l.length) (h:okAt i (l.getD i 0)=false):wordB l=false:=by
 cases hw:wordB l with
 | false=>rfl
 | true=>have:=(zGq l).1 hw i hi;rw [h] at this;cases this
def split:List UInt8→List (List UInt8)
  | []=>[[]]
  | c::r=>if c=47 then []::split r else match split r with
    | []=>[[c]]
    | p::ps=>(c::p)::ps
def slashAt (l:List UInt8):Nat:=l.findIdx (·==47)
theorem zHv (l:List UInt8):slashAt l≤l.length:=List.findIdx_le_length
theorem zLr {l:List UInt8} (h:slashAt l=l.length):split l=[l]:=by
 induction l with
 | nil=>rfl
 | cons c r ih=>
  unfold slashAt at h ih;rw [List.findIdx_cons] at h
  by_cases hc:c=47
  ·simp [hc] at h
  ·have hb:(c==47)=false:=by simp [hc]
   rw [hb] at h;rw [split,if_neg hc,ih (by simpa using h)]
theorem zLs {l:List UInt8} (h:slashAt l<l.length):split l=l.take (slashAt l)::split (l.drop (slashAt l+1)):=by
 induction l with
 | nil=>simp at h
 | cons c r ih=>
  unfold slashAt at h ih ⊢;rw [List.findIdx_cons] at h ⊢
  by_cases hc:c=47
  ·simp [hc,split]
  ·have hb:(c==47)=false:=by simp [hc]
   rw [hb] at h ⊢;rw [split,if_neg hc,ih (by simpa using h)];simp
theorem zUw {l:List UInt8} {k:Nat} (hk:k≤slashAt l) (hl:k<l.length) (h:l.getD k 0=47):slashAt l=k:=by
 refine Nat.le_antisymm ?_ hk;unfold slashAt;refine Nat.le_of_not_lt fun hlt=>?_;have:=List.not_of_lt_findIdx hlt;rw [List.getD_eq_getElem?_getD,List.getElem?_eq_getElem hl] at h;simp at h this
 exact this h
theorem zPb {l:List UInt8} {k:Nat} (hk:k≤slashAt l) (hl:k<l.length) (h:l.getD k 0≠47):k+1≤slashAt l:=by
 refine Nat.lt_of_le_of_ne hk fun e=>h ?_;have hlt:List.findIdx (·==47) l<l.length:=by unfold slashAt at e;omega
 have:=List.findIdx_getElem (w:=hlt);rw [List.getD_eq_getElem?_getD,List.getElem?_eq_getElem hl];unfold slashAt at e;simp at this ⊢
 simp only [e]
 exact this
def labelB (l:List UInt8):Bool:=decide (l.length≤90) && (split l).all (wordN 20)
theorem zJm {n:Nat} {l:List UInt8} (h:l.length<1):wordN n l=false:=by
 simp [wordN];omega
theorem zLt {n:Nat} {l:List UInt8} (h:n<l.length):wordN n l=false:=by
 simp [wordN];omega
theorem zFa {n i:Nat} {l:List UInt8} (hi:i<l.length) (h:okAt i (l.getD i 0)=false):wordN n l=false:=by
 rw [wordN,zRi hi h];simp
theorem zLu {n:Nat} {l:List UInt8} (h1:1≤l.length) (h2:l.length≤n) (h:∀i,i<l.length→okAt i (l.getD i 0)=true):wordN n l=true:=by
 simp [wordN,h1,h2,(zGq l).2 h]
theorem zRj (l:List UInt8):wordN 20 l=(decide (l.length≤20) && wordN 24 l):=by
 rw [Bool.eq_iff_iff];simp only [wordN,Bool.and_eq_true,decide_eq_true_eq]
 constructor
 ·rintro ⟨⟨a,b⟩,c⟩;exact ⟨b,⟨a,by omega⟩,c⟩
 ·rintro ⟨a,⟨b,_⟩,c⟩;exact ⟨⟨b,a⟩,c⟩
theorem zJn {l:List UInt8} (h:90<l.length):labelB l=false:=by
 simp [labelB];omega
def lastSlFrom (l:List UInt8):Nat→Int
  | 0=>-1
  | n+1=>if l.getD n 0=47 then n else lastSlFrom l n
/- The same over Go's strings. -/
def lastSlS (s:ByteArray):Int:=lastSlFrom s.data.toList s.size
def wordS (n:Nat) (s:ByteArray):Bool:=wordN n s.data.toList
def slashS (s:ByteArray):Nat:=slashAt s.data.toList
def labelS (s:ByteArray):Bool:=labelB s.data.toList
end Go.Proofs.YtfkjfdbjhlmjcaaGreatDoor
namespace Go.Proofs.YtfkjfdbjhlmjcaaGreatDoor
open Go.RowKit
def IsRow (w:World) (size:Nat) (v:Value) (n:Nat) (xs:List Value):Prop:=
  xs.length=n * size∧∃(a:Option Addr) (cap:Nat),v=.slice a n cap∧n≤cap∧cap≤maxLen ∧
    (0<n→∃b o:Nat,a=some ⟨b,o,none⟩∧b<w.heap.size∧∀j u,xs[j]?=some u→w.cell? ⟨b,o+j,none⟩=some u)
def Strs (w:World) (v:Value) (ss:List ByteArray):Prop:=IsRow w 1 v ss.length (ss.map .string)
structure Mod (X:List Nat) (w w':World):Prop where
  os:w'.os=w.os
  tape:w'.tape=w.tape
  output:w'.output=w.output
  size:w.heap.size≤w'.heap.size
  block:∀k,k<w.heap.size→k∉X→w'.heap[k]?=w.heap[k]?
theorem Mod.refl (X:List Nat) (w:World):Mod X w w:=⟨rfl,rfl,rfl,Nat.le_refl _,fun _ _ _=>rfl⟩
theorem Mod.trans {X:List Nat} {a b c:World} (h:Mod X a b) (k:Mod X b c):Mod X a c:=
 ⟨k.os.trans h.os,k.tape.trans h.tape,k.output.trans h.output,Nat.le_trans h.size k.size,fun i hi hx=>(k.block i (Nat.lt_of_lt_of_le hi h.size) hx).trans (h.block i hi hx)⟩
theorem Mod.of {X:List Nat} {w w':World} (h:Bw w w'):Mod X w w':=⟨h.os,h.tape,h.output,h.size,fun k hk _=>h.block k hk⟩
theorem Mod.below {w w':World} (h:Mod [] w w'):Bw w w':=⟨h.os,h.tape,h.output,h.size,fun k hk=>h.block k hk (by simp)⟩
theorem Mod.mono {X Y:List Nat} {w w':World} (h:Mod X w w') (hs:∀k,k∈X→k∈Y):Mod Y w w':=⟨h.os,h.tape,h.output,h.size,fun k hk hy=>h.block k hk (fun hx=>hy (hs k hx))⟩
theorem Mod.upto {X:List Nat} {B:Nat} {w w':World} (h:Mod X w w') (hB:B≤w.heap.size) (hX:∀k,k∈X→B≤k):Below B w w':=
 ⟨h.os,h.tape,h.output,h.size,fun k hk=>h.block k (by omega) (fun hx=>by have:=hX k hx;omega)⟩
theorem Mod.setCell {X:List Nat} {a w:World} (h:Mod X a w) {p:Addr} (hp:p.block∈X) (u:Value):Mod X a (w.setCell p u):=
 h.trans ⟨rfl,rfl,rfl,by simp [World.setCell],fun k _ hx=>Below.heap_setCell _ _ _ _ (fun e=>hx (e▸hp))⟩
theorem Mod.alloc {X:List Nat} {a w:World} (h:Mod X a w) (o:Obj):Mod X a (w.alloc o):=h.trans (Mod.of (zAa w o))
theorem Mod.drew {X:List Nat} {a w:World} (h:Mod X a w):Mod X a w.drew:=⟨h.os,h.tape,h.output,h.size,h.block⟩
theorem Mod.cell {X:List Nat} {w w':World} (h:Mod X w w') {b o:Nat} {v:Value} (hc:w.cell? ⟨b,o,none⟩=some v) (hb:b∉X):w'.cell? ⟨b,o,none⟩=some v:=by
 obtain ⟨ob,ho,_⟩:=cells_of_cell hc;exact (World.cell?_of_block (w:=w) (h.block b (Array.getElem?_eq_some_iff.1 ho).1 hb)).trans hc
theorem Mod.heap {X:List Nat} {w w':World} (h:Mod X w w') {b:Nat} {ob:Obj} (hc:w.heap[b]?=some ob) (hb:b∉X):w'.heap[b]?=some ob:=
 (h.block b (Array.getElem?_eq_some_iff.1 hc).1 hb).trans hc
theorem Mod.trans' {X:List Nat} {a b c:World} (h:Mod X a b) {row:Option Nat} (g:b.grownBy c row) (hr:∀k,row=some k→a.heap.size≤k):Mod X a c:=
 ⟨g.os.trans h.os,g.tape.trans h.tape,g.output.trans h.output,Nat.le_trans h.size g.size,fun i hi hx=>(g.block i (Nat.lt_of_lt_of_le hi h.size) (fun e=>by have:=hr i e.symm;omega)).trans (h.block i hi hx)⟩
theorem IsRow.mod {w w':World} {size:Nat} {v:Value} {n:Nat} {xs:List Value} {X:List Nat} (h:IsRow w size v n xs) (m:Mod X w w') (hx:∀b,v.ownBlock=some b→b∉X):IsRow w' size v n xs:=by
 obtain ⟨hl,a,cap,rfl,h1,h2,h3⟩:=h;refine ⟨hl,a,cap,rfl,h1,h2,fun hn=>?_⟩;obtain ⟨b,o,rfl,hb,hc⟩:=h3 hn;exact ⟨b,o,rfl,Nat.lt_of_lt_of_le hb m.size,fun j u hj=>m.cell (hc j u hj) (hx b rfl)⟩
theorem IsRow.below {w w':World} {size:Nat} {v:Value} {n:Nat} {xs:List Value} (h:IsRow w size v n xs) (m:Bw w w'):IsRow w' size v n xs:=
 h.mod (Mod.of (X:=[]) m) (by simp)
theorem Strs.below {w w':World} {v:Value} {ss:List ByteArray} (h:Strs w v ss) (m:Bw w w'):Strs w' v ss:=IsRow.below h m
theorem Strs.nil (w:World) (a:Option Addr) (cap:Nat) (h:cap≤maxLen):Strs w (.slice a 0 cap) []:=⟨rfl,a,cap,rfl,Nat.zero_le _,h,fun h=>absurd h (Nat.lt_irrefl _)⟩
theorem Strs.shape {w:World} {v:Value} {ss:List ByteArray} (h:Strs w v ss):∃(a:Option Addr) (cap:Nat),v=.slice a ss.length cap∧ss.length≤cap∧cap≤maxLen ∧
  (∀i,i<ss.length→∃b o:Nat,a=some ⟨b,o,none⟩∧b<w.heap.size∧∀j,j<ss.length→w.cell? ⟨b,o+j,none⟩=some (.string (ss.getD j ByteArray.empty))):=by
 obtain ⟨_,a,cap,rfl,h1,h2,h3⟩:=h;refine ⟨a,cap,rfl,h1,h2,fun i hi=>?_⟩;obtain ⟨b,o,rfl,hb,hc⟩:=h3 (by omega);refine ⟨b,o,rfl,hb,fun j hj=>hc j _ ?_⟩;rw [List.getElem?_map,List.getD_eq_getElem?_getD,List.getElem?_eq_getElem hj];rfl
theorem Strs.take {w:World} {b o cap i:Nat} {ss:List ByteArray} (h:Strs w (.slice (some ⟨b,o,none⟩) ss.length cap) ss) (hi:i≤ss.length):Strs w (.slice (some ⟨b,o,none⟩) i cap) (ss.take i):=by
  obtain ⟨_,a,cap',e,h1,h2,h3⟩:=h
  cases e
  refine ⟨by simp,some ⟨b,o,none⟩,cap,by rw [List.length_take,Nat.min_eq_left hi],by rw [List.length_take];omega,h2,fun hn=>?_⟩
  obtain ⟨b',o',e,hb,hc⟩:=h3 (by rw [List.length_take] at hn;omega)
  cases e
  refine ⟨b,o,rfl,hb,fun j u hj=>hc j u ?_⟩
  rw [List.map_take] at hj
  rw [List.getElem?_take] at hj
  split at hj
  · exact hj
  · cases hj
inductive Tree where
  | leaf (v:Value)
  | row (size n:Nat) (ds:List Tree)
mutual
def Reads (w:World) (X:List Nat):Tree→Value→Prop
 | .leaf u,v=>v=u
 | .row size n ds,v=>∃xs,IsRow w size v n xs∧(0<n→∀b,v.ownBlock=some b→b∉X)∧ReadsL w X ds xs
def ReadsL (w:World) (X:List Nat):List Tree→List Value→Prop
 | [],xs=>xs=[]
 | d::ds,xs=>∃x rest,xs=x::rest∧Reads w X d x∧ReadsL w X ds rest
end
theorem IsRow.mod' {w w':World} {size:Nat} {v:Value} {n:Nat} {xs:List Value} {X:List Nat} (h:IsRow w size v n xs) (m:Mod X w w') (hx:0<n→∀b,v.ownBlock=some b→b∉X):IsRow w' size v n xs:=by
 obtain ⟨hl,a,cap,rfl,h1,h2,h3⟩:=h;refine ⟨hl,a,cap,rfl,h1,h2,fun hn=>?_⟩;obtain ⟨b,o,rfl,hb,hc⟩:=h3 hn;exact ⟨b,o,rfl,Nat.lt_of_lt_of_le hb m.size,fun j u hj=>m.cell (hc j u hj) (hx hn b rfl)⟩
mutual
theorem Reads.mod {w w':World} {X:List Nat} (m:Mod X w w'):∀{d:Tree} {v:Value},Reads w X d v→Reads w' X d v
 | .leaf _,_,h=>by rw [Reads] at h ⊢;exact h
 | .row _ _ _,_,h=>by
  rw [Reads] at h ⊢;obtain ⟨xs,h1,h2,h3⟩:=h;exact ⟨xs,h1.mod' m h2,h2,ReadsL.mod m h3⟩
theorem ReadsL.mod {w w':World} {X:List Nat} (m:Mod X w w'):∀{ds:List Tree} {xs:List Value},ReadsL w X ds xs→ReadsL w' X ds xs
 | [],_,h=>by rw [ReadsL] at h ⊢;exact h
 | _::_,_,h=>by
  rw [ReadsL] at h ⊢;obtain ⟨x,rest,e,h1,h2⟩:=h;exact ⟨x,rest,e,Reads.mod m h1,ReadsL.mod m h2⟩
end
mutual
theorem Reads.below {w w':World} {X:List Nat} (m:Bw w w'):∀{d:Tree} {v:Value},Reads w X d v→Reads w' X d v
 | .leaf _,_,h=>by rw [Reads] at h ⊢;exact h
 | .row _ _ _,_,h=>by
  rw [Reads] at h ⊢;obtain ⟨xs,h1,h2,h3⟩:=h;exact ⟨xs,h1.below m,h2,ReadsL.below m h3⟩
theorem ReadsL.below {w w':World} {X:List Nat} (m:Bw w w'):∀{ds:List Tree} {xs:List Value},ReadsL w X ds xs→ReadsL w' X ds xs
 | [],_,h=>by rw [ReadsL] at h ⊢;exact h
 | _::_,_,h=>by
  rw [ReadsL] at h ⊢;obtain ⟨x,rest,e,h1,h2⟩:=h;exact ⟨x,rest,e,Reads.below m h1,ReadsL.below m h2⟩
end
mutual
theorem Reads.fewer {w:World} {X Y:List Nat} (hs:∀k,k∈Y→k∈X):∀{d:Tree} {v:Value},Reads w X d v→Reads w Y d v
 | .leaf _,_,h=>by rw [Reads] at h ⊢;exact h
 | .row _ _ _,_,h=>by
  rw [Reads] at h ⊢;obtain ⟨xs,h1,h2,h3⟩:=h;exact ⟨xs,h1,fun hn b hb hy=>h2 hn b hb (hs b hy),ReadsL.fewer hs h3⟩
theorem ReadsL.fewer {w:World} {X Y:List Nat} (hs:∀k,k∈Y→k∈X):∀{ds:List Tree} {xs:List Value},ReadsL w X ds xs→ReadsL w Y ds xs
 | [],_,h=>by rw [ReadsL] at h ⊢;exact h
 | _::_,_,h=>by
  rw [ReadsL] at h ⊢;obtain ⟨x,rest,e,h1,h2⟩:=h;exact ⟨x,rest,e,Reads.fewer hs h1,ReadsL.fewer hs h2⟩
end
mutual
theorem Reads.more {w:World} {X:List Nat} {k:Nat} (hk:w.heap.size≤k):∀{d:Tree} {v:Value},Reads w X d v→Reads w (k::X) d v
 | .leaf _,_,h=>by rw [Reads] at h ⊢;exact h
 | .row _ n _,v,h=>by
  rw [Reads] at h ⊢;obtain ⟨xs,h1,h2,h3⟩:=h;refine ⟨xs,h1,fun hn b hb hy=>?_,ReadsL.more hk h3⟩
  rcases List.mem_cons.1 hy with rfl|hy
  ·obtain ⟨_,a,cap,rfl,_,_,h5⟩:=h1
   obtain ⟨b',o,rfl,hlt,_⟩:=h5 hn
   cases hb
   exact absurd hlt (Nat.not_lt.2 hk)
  ·exact h2 hn b hb hy
theorem ReadsL.more {w:World} {X:List Nat} {k:Nat} (hk:w.heap.size≤k):∀{ds:List Tree} {xs:List Value},ReadsL w X ds xs→ReadsL w (k::X) ds xs
 | [],_,h=>by rw [ReadsL] at h ⊢;exact h
 | _::_,_,h=>by
  rw [ReadsL] at h ⊢;obtain ⟨x,rest,e,h1,h2⟩:=h;exact ⟨x,rest,e,Reads.more hk h1,ReadsL.more hk h2⟩
end
theorem Reads.free {w:World} {X:List Nat} {d:Tree} {v:Value} (h:Reads w X d v):Reads w [] d v:=h.fewer (by simp)
theorem Reads.leafv {w:World} {X:List Nat} {u v:Value} (h:Reads w X (.leaf u) v):v=u:=by rw [Reads] at h;exact h
theorem Reads.leaf' (w:World) (X:List Nat) (u:Value):Reads w X (.leaf u) u:=by rw [Reads]
theorem ReadsL.nil (w:World) (X:List Nat):ReadsL w X [] []:=by rw [ReadsL]
theorem ReadsL.cons {w:World} {X:List Nat} {d:Tree} {ds:List Tree} {x:Value} {xs:List Value} (h:Reads w X d x) (hs:ReadsL w X ds xs):ReadsL w X (d::ds) (x::xs):=by
 rw [ReadsL];exact ⟨x,xs,rfl,h,hs⟩
theorem ReadsL.inv {w:World} {X:List Nat} {d:Tree} {ds:List Tree} {xs:List Value} (h:ReadsL w X (d::ds) xs):∃x rest,xs=x::rest∧Reads w X d x∧ReadsL w X ds rest:=by
 rw [ReadsL] at h;exact h
theorem ReadsL.len {w:World} {X:List Nat}:∀{ds:List Tree} {xs:List Value},ReadsL w X ds xs→xs.length=ds.length
 | [],_,h=>by rw [ReadsL] at h;rw [h];rfl
 | _::_,_,h=>by obtain ⟨x,rest,rfl,_,h2⟩:=h.inv;simp [ReadsL.len h2]
theorem ReadsL.at {w:World} {X:List Nat}:∀{ds:List Tree} {xs:List Value} {i:Nat} {d:Tree},ReadsL w X ds xs→ds[i]?=some d→∃x,xs[i]?=some x∧Reads w X d x
 | [],_,_,_,_,hi=>by simp at hi
 | _::_,_,0,_,h,hi=>by
  obtain ⟨x,rest,rfl,h1,_⟩:=h.inv;simp at hi;subst hi
  exact ⟨x,rfl,h1⟩
 | _::_,_,i+1,d,h,hi=>by
  obtain ⟨x,rest,rfl,_,h2⟩:=h.inv;obtain ⟨y,a,b⟩:=ReadsL.at (i:=i) (d:=d) h2 (by simpa using hi);exact ⟨y,by simpa using a,b⟩
theorem ReadsL.append {w:World} {X:List Nat} {es:List Tree} {ys:List Value} (h':ReadsL w X es ys):∀{ds:List Tree} {xs:List Value},ReadsL w X ds xs→ReadsL w X (ds++es) (xs++ys)
 | [],_,h=>by rw [ReadsL] at h;rw [h];exact h'
 | _::_,_,h=>by
  obtain ⟨x,rest,rfl,h1,h2⟩:=h.inv;exact ReadsL.cons h1 (ReadsL.append h' h2)
theorem ReadsL.take {w:World} {X:List Nat}:∀{ds:List Tree} {xs:List Value} (i:Nat),ReadsL w X ds xs→ReadsL w X (ds.take i) (xs.take i)
 | [],_,i,h=>by rw [ReadsL] at h;rw [h];simp [ReadsL]
 | _::_,_,0,_=>by simp [ReadsL]
 | _::_,_,i+1,h=>by
  obtain ⟨x,rest,rfl,h1,h2⟩:=h.inv;exact ReadsL.cons h1 (ReadsL.take i h2)
theorem ReadsL.drop {w:World} {X:List Nat}:∀{ds:List Tree} {xs:List Value} (i:Nat),ReadsL w X ds xs→ReadsL w X (ds.drop i) (xs.drop i)
 | [],_,i,h=>by rw [ReadsL] at h;rw [h];simp [ReadsL]
 | _::_,_,0,h=>h
 | _::_,_,i+1,h=>by
  obtain ⟨x,rest,rfl,_,h2⟩:=h.inv;exact ReadsL.drop i h2
section
variable {α:Type}
def rowT (size:Nat) (f:α→List Tree) (l:List α):Tree:=.row size l.length (l.flatMap f)
theorem zEj {size:Nat} {f:α→List Tree} (hf:∀a,(f a).length=size):∀l:List α,(l.flatMap f).length=l.length * size
 | []=>by simp
 | a::l=>by simp [zEj hf l,hf a,Nat.add_mul,Nat.add_comm]
theorem zLv {size:Nat} {f:α→List Tree} (hf:∀a,(f a).length=size):∀(l:List α) (i j:Nat) (a:α) (d:Tree),l[i]?=some a→(f a)[j]?=some d→(l.flatMap f)[i * size+j]?=some d
 | [],_,_,_,_,h,_=>by simp at h
 | x::l,0,j,a,d,h,hj=>by
  simp at h;subst h
  have:j<(f x).length:=(List.getElem?_eq_some_iff.1 hj).1;rw [List.flatMap_cons,Nat.zero_mul,Nat.zero_add,List.getElem?_append_left this];exact hj
 | x::l,i+1,j,a,d,h,hj=>by
  rw [List.flatMap_cons,List.getElem?_append_right (by rw [hf x,Nat.add_mul];omega),hf x,show (i+1) * size+j - size=i * size+j by rw [Nat.add_mul];omega];exact zLv hf l i j a d (by simpa using h) hj
theorem zPc {size:Nat} {f:α→List Tree} (hf:∀a,(f a).length=size):∀(l:List α) (i:Nat),(l.flatMap f).take (i * size)=(l.take i).flatMap f
 | [],i=>by simp
 | x::l,0=>by simp
 | x::l,i+1=>by
  rw [List.flatMap_cons,List.take_append,hf x,show (i+1) * size - size=i * size by rw [Nat.add_mul];omega,zPc hf l i,List.take_of_length_le (by rw [hf x,Nat.add_mul];omega)];simp
theorem zIh {size:Nat} {f:α→List Tree} (hf:∀a,(f a).length=size):∀(l:List α) (i:Nat),(l.flatMap f).drop (i * size)=(l.drop i).flatMap f
 | [],i=>by simp
 | x::l,0=>by simp
 | x::l,i+1=>by
  rw [List.flatMap_cons,List.drop_append,hf x,show (i+1) * size - size=i * size by rw [Nat.add_mul];omega,zIh hf l i,List.drop_of_length_le (by rw [hf x,Nat.add_mul];omega)];simp
theorem Reads.val {w:World} {X:List Nat} {size:Nat} {f:α→List Tree} {l:List α} {v:Value} (h:Reads w X (rowT size f l) v) :
    ∃(a:Option Addr) (cap:Nat),v=.slice a l.length cap∧l.length≤cap∧cap≤9223372036854775807:=by
  rw [rowT,Reads] at h
  obtain ⟨xs,⟨_,a,cap,e,h1,h2,_⟩,_,_⟩:=h
  exact ⟨a,cap,e,h1,by unfold maxLen at h2;omega⟩
theorem Reads.elem {w:World} {X:List Nat} {size:Nat} {f:α→List Tree} (hf:∀a,(f a).length=size) {l:List α} {a:Option Addr} {cap:Nat} (h:Reads w X (rowT size f l) (.slice a l.length cap)) {i:Nat} {x:α} (hi:l[i]?=some x) :
    ∃b o:Nat,a=some ⟨b,o,none⟩∧b<w.heap.size∧∀j d,(f x)[j]?=some d→∃u,w.cell? ⟨b,o+i * size+j,none⟩=some u∧Reads w X d u:=by
  rw [rowT,Reads] at h
  obtain ⟨xs,⟨_,a',cap',e,_,_,h3⟩,_,hr⟩:=h
  cases e
  have hlt:i<l.length:=(List.getElem?_eq_some_iff.1 hi).1
  obtain ⟨b,o,rfl,hb,hc⟩:=h3 (by omega)
  refine ⟨b,o,rfl,hb,fun j d hj=>?_⟩
  obtain ⟨u,hu,hd⟩:=hr.at (zLv hf l i j x d hi hj)
  exact ⟨u,by have:=hc _ _ hu;rwa [←Nat.add_assoc] at this,hd⟩
theorem Reads.nilRow (w:World) (X:List Nat) (size:Nat) (f:α→List Tree):Reads w X (rowT size f []) (.slice none 0 0):=by
 rw [rowT,Reads];exact ⟨[],⟨by simp,none,0,rfl,Nat.le_refl _,Nat.zero_le _,fun h=>absurd h (Nat.lt_irrefl _)⟩,fun h=>absurd h (Nat.lt_irrefl _),by simp [ReadsL]⟩
theorem Reads.dropRow {w:World} {X:List Nat} {size:Nat} {f:α→List Tree} (hf:∀a,(f a).length=size) {l:List α} {b o cap i:Nat} (h:Reads w X (rowT size f l) (.slice (some ⟨b,o,none⟩) l.length cap)) (hi:i≤l.length) :
    Reads w X (rowT size f (l.drop i)) (.slice (some ⟨b,o+i * size,none⟩) (l.length - i) (cap - i)):=by
  rw [rowT,Reads] at h ⊢
  obtain ⟨xs,⟨hl,a',cap',e,h1,h2,h3⟩,hx,hr⟩:=h
  cases e
  have hlen:(l.drop i).length=l.length - i:=by rw [List.length_drop]
  refine ⟨xs.drop (i * size),⟨by rw [hlen,List.length_drop,hl,Nat.sub_mul],_,cap - i,by rw [hlen],by rw [hlen];omega,by omega,fun hn=>?_⟩,fun hn b hb=>hx (by omega) b hb,?_⟩
  · obtain ⟨b',o',e,hb,hc⟩:=h3 (by omega)
    cases e
    refine ⟨b,_,rfl,hb,fun j u hj=>?_⟩
    rw [List.getElem?_drop] at hj
    have:=hc _ u hj
    rwa [←Nat.add_assoc] at this
  · rw [←zIh hf];exact hr.drop _
theorem Reads.ofRow {w:World} {X:List Nat} {size:Nat} {f:α→List Tree} {l:List α} {v:Value} {xs:List Value} (h:IsRow w size v l.length xs) (hx:0<l.length→∀b,v.ownBlock=some b→b∉X) (hr:ReadsL w X (l.flatMap f) xs):Reads w X (rowT size f l) v:=by
  rw [rowT,Reads];exact ⟨xs,h,hx,hr⟩
theorem Reads.toRow {w:World} {X:List Nat} {size:Nat} {f:α→List Tree} {l:List α} {v:Value} (h:Reads w X (rowT size f l) v):∃xs,IsRow w size v l.length xs∧(0<l.length→∀b,v.ownBlock=some b→b∉X)∧ReadsL w X (l.flatMap f) xs:=by
 rw [rowT,Reads] at h;exact h
end
def strT (s:ByteArray):Tree:=.leaf (.string s)
def strsT (ss:List ByteArray):Tree:=rowT 1 (fun s=>[strT s]) ss
theorem zEk {w:World} {X:List Nat}:∀{ss:List ByteArray} {xs:List Value},ReadsL w X (ss.flatMap fun s=>[strT s]) xs↔xs=ss.map .string
 | [],xs=>by simp [ReadsL]
 | s::ss,xs=>by
  rw [List.flatMap_cons,List.map_cons]
  constructor
  ·intro h
   obtain ⟨x,rest,rfl,h1,h2⟩:=ReadsL.inv h;rw [Reads.leafv h1,zEk.1 h2]
  ·rintro rfl
   exact ReadsL.cons (Reads.leaf' _ _ _) (zEk.2 rfl)
theorem zAg {w:World} {X:List Nat} {ss:List ByteArray} {v:Value}:Reads w X (strsT ss) v↔Strs w v ss∧(0<ss.length→∀b,v.ownBlock=some b→b∉X):=by
 constructor
 ·intro h
  obtain ⟨xs,h1,h2,h3⟩:=Reads.toRow h;rw [zEk.1 h3] at h1;exact ⟨h1,h2⟩
 ·rintro ⟨h1,h2⟩
  exact Reads.ofRow h1 h2 (zEk.2 rfl)
end Go.Proofs.YtfkjfdbjhlmjcaaGreatDoor
namespace Go.Proofs.YtfkjfdbjhlmjcaaGreatDoor
open Go.Maps (Keyed)
open Go.RowKit
def heldE (v:Value):Option (DataW Value×List MemPlace):=some (.held v,[])
def IsMapS (P:Program) (k:TypeId) (w:World) (b n:Nat) (f:List UInt8→Option Value):Prop:=
  ∃D:DataW Value,w.ownsMap P k heldE b n D∧Maps.IsMap D∧∀s,(∀z,D.atKey (.string s) (.held z)=.held ((f s).getD z))∧Maps.has D (.string s)=(f s).isSome
theorem IsMapS.made (P:Program) (k:TypeId) (w:World):IsMapS P k (w.alloc (.map #[] 0)) w.heap.size 0 (fun _=>none):=
 ⟨.map [],World.ownsMap_made w P k heldE,⟨[],rfl⟩,fun _=>⟨fun _=>rfl,rfl⟩⟩
theorem IsMapS.lt {P:Program} {k:TypeId} {w:World} {b n:Nat} {f:List UInt8→Option Value} (h:IsMapS P k w b n f):b<w.heap.size:=by
 obtain ⟨D,h1,_⟩:=h;exact h1.lt
theorem IsMapS.block {P:Program} {k:TypeId} {w w':World} {b n:Nat} {f:List UInt8→Option Value} (h:IsMapS P k w b n f) (e:w'.heap[b]?=w.heap[b]?):IsMapS P k w' b n f:=by
 obtain ⟨D,⟨es,c,h1,h2⟩,h3⟩:=h;exact ⟨D,⟨es,c,e.trans h1,h2⟩,h3⟩
theorem IsMapS.below {P:Program} {k:TypeId} {w w':World} {b n:Nat} {f:List UInt8→Option Value} (h:IsMapS P k w b n f) (m:Bw w w'):IsMapS P k w' b n f:=h.block (m.block _ h.lt)
theorem IsMapS.put {P:Program} {k t e:TypeId} {w:World} {b n:Nat} {f:List UInt8→Option Value} (h:IsMapS P k w b n f) (K:Keyed P k) (ht:P.underlying t=some (.map k e)) (hn:n<maxLen)
  {s:ByteArray} (hk:keyOf P k (.string s)=some (.string s.data.toList)) (v:Value) :
  ∃w',(Instr.mapUpdate t (.map (some b)) (.string s) v).run P w=.ok () w'∧IsMapS P k w' b (n+1) (fun x=>if x=s.data.toList then some v else f x)∧w.grownBy w' (some b):=by
 obtain ⟨D,h1,h2,h3⟩:=h;obtain ⟨w',hr,ho,hg⟩:=h1.update K ht hn hk (val:=v) (d:=.held v) (ps:=[]) rfl;refine ⟨w',hr,⟨_,ho,?_,fun x=>?_⟩,hg⟩
 ·obtain ⟨es,rfl⟩:=h2;exact ⟨_,rfl⟩
 ·by_cases hx:x=s.data.toList
  ·subst hx
   simp only [if_pos]
   exact ⟨fun z=>Maps.atKey_put_same h2 (K.key hk) _ _,Maps.has_put_same h2 (K.key hk) _⟩
  ·simp only [if_neg hx]
   have hne:(Lit.string x)≠.string s.data.toList:=fun e=>hx (by injection e);exact ⟨fun z=>by rw [Maps.atKey_put_other hne];exact (h3 x).1 z,by rw [Maps.has_put_other hne];exact (h3 x).2⟩
end Go.Proofs.YtfkjfdbjhlmjcaaGreatDoor
namespace Go.Proofs.YtfkjfdbjhlmjcaaGreatDoor
open Go.RowKit
theorem zJo {α:Type} {l:List α} {k:Nat} {x:α} (h:l[k]?=some x):l.take (k+1)=l.take k++[x]:=by
 obtain ⟨hk,e⟩:=List.getElem?_eq_some_iff.1 h;rw [List.take_succ_eq_append_getElem hk,e]
theorem zLw {w:World} {base:Nat} {e:TypeId} {size:Nat} {v:Value} {n:Nat} {xs:List Value} (h:w.ownsRow base e size v n xs) {b:Nat} (hb:v.ownBlock=some b):base≤b:=by
 rcases h.2 with ⟨rfl,_⟩|⟨g,cap,cur,rfl,hg,_⟩
 ·cases hb
 ·cases hb;exact hg
theorem zAs {w:World} {base:Nat} {e:TypeId} {size:Nat} {v:Value} {n:Nat} {xs:List Value} (h:w.ownsRow base e size v n xs):IsRow w size v n xs:=by
 obtain ⟨h1,h2⟩:=h
 rcases h2 with ⟨rfl,rfl⟩|⟨g,cap,cur,rfl,hg,hh,hn,hc,hs,ht⟩
 ·exact ⟨h1,none,0,rfl,Nat.le_refl _,Nat.zero_le _,fun h=>absurd h (Nat.lt_irrefl _)⟩
 ·refine ⟨h1,_,cap,rfl,hn,hc,fun _=>⟨g,0,rfl,(Array.getElem?_eq_some_iff.1 hh).1,fun j u hj=>?_⟩⟩
  rw [←ht,List.getElem?_take] at hj;split at hj
  ·simp only [World.cell?,hh,Nat.zero_add,Option.isSome_none,Bool.false_eq_true,if_false]
   rw [←Array.getElem?_toList];exact hj
  ·cases hj
theorem zAk {w:World} {base:Nat} {e:TypeId} {size:Nat} {v:Value} {n:Nat} {xs:List Value} (h:w.ownsRow base e size v n xs):∃a cap,v=.slice a n cap:=by
 obtain ⟨_,a,cap,e,_⟩:=zAs h;exact ⟨a,cap,e⟩
theorem zAp {w w':World} {row:Option Nat} (g:w.grownBy w' row):Mod row.toList w w':=
 ⟨g.os,g.tape,g.output,g.size,fun k hk hx=>g.block k hk (fun e=>hx (by rw [←e];simp))⟩
theorem zFb {w:World} {R:Nat} {cs:Array Value} {t:TypeId} {m:Nat×Nat} (h:w.heap[R]?=some (.cells cs t m)) (o:Nat) (v:Value):(w.setCell ⟨R,o,none⟩ v).heap[R]?=some (.cells (cs.setIfInBounds o v) t m):=by
 obtain ⟨hlt,hk⟩:=Array.getElem?_eq_some_iff.1 h;show (w.heap.modify R _)[R]?=_
 rw [Array.getElem?_eq_getElem (by rw [Array.size_modify];exact hlt),Array.getElem_modify_self,hk];rfl
def CBox (w:World) (B:Nat) (t:TypeId) (xs:Array Value):Prop:=w.heap[B]?=some (.cells xs t (0,0))
theorem CBox.lt {w:World} {B:Nat} {t:TypeId} {xs:Array Value} (h:CBox w B t xs):B<w.heap.size:=(Array.getElem?_eq_some_iff.1 h).1
theorem CBox.cell {w:World} {B:Nat} {t:TypeId} {xs:Array Value} (h:CBox w B t xs) {i:Nat} {v:Value} (hi:xs[i]?=some v):w.cell? ⟨B,i,none⟩=some v:=by
 have h':w.heap[B]?=_:=h;simp [World.cell?,h',hi]
theorem CBox.frozen {w:World} {B:Nat} {t:TypeId} {xs:Array Value} (h:CBox w B t xs) (o:Nat):w.frozen? ⟨B,o,none⟩=false:=by
 have h':w.heap[B]?=_:=h;simp [World.frozen?,h']
theorem CBox.new (w:World) (t:TypeId) (xs:Array Value):CBox (w.alloc (.cells xs t)) w.heap.size t xs:=World.alloc_heap_new _ _
theorem CBox.below {w w':World} {B:Nat} {t:TypeId} {xs:Array Value} (h:CBox w B t xs) (m:Bw w w'):CBox w' B t xs:=(m.block B h.lt).trans h
theorem CBox.alloc {w:World} {B:Nat} {t:TypeId} {xs:Array Value} (h:CBox w B t xs) (o:Obj):CBox (w.alloc o) B t xs:=h.below (zAa w o)
theorem CBox.mod {X:List Nat} {w w':World} {B:Nat} {t:TypeId} {xs:Array Value} (h:CBox w B t xs) (m:Mod X w w') (hx:B∉X):CBox w' B t xs:=(m.block B h.lt hx).trans h
theorem CBox.set {w:World} {B:Nat} {t:TypeId} {xs:Array Value} (h:CBox w B t xs) (o:Nat) (v:Value):CBox (w.setCell ⟨B,o,none⟩ v) B t (xs.setIfInBounds o v):=zFb h o v
theorem zAh {w:World} {B:Nat} {t:TypeId} {a0 a1 a2:Value} {l:List Value} (h:CBox w B t (a0::a1::a2::l).toArray):w.cell? ⟨B,0,none⟩=some a0∧w.cell? ⟨B,1,none⟩=some a1∧w.cell? ⟨B,2,none⟩=some a2∧B<w.heap.size:=⟨h.cell (i:=0) (by rw [List.getElem?_toArray];rfl),h.cell (i:=1) (by rw [List.getElem?_toArray];rfl),h.cell (i:=2) (by rw [List.getElem?_toArray];rfl),h.lt⟩
theorem zAu {w:World} {B:Nat} {t:TypeId} {xs:Array Value} (h:CBox w B t xs):w.frozen? ⟨B,0,none⟩=false∧w.frozen? ⟨B,1,none⟩=false∧w.frozen? ⟨B,2,none⟩=false:=⟨h.frozen 0,h.frozen 1,h.frozen 2⟩
theorem yDd {w:World} {B:Nat} {t:TypeId} {a0 a1 a2 a3:Value} {l:List Value} (h:CBox w B t (a0::a1::a2::a3::l).toArray):w.cell? ⟨B,0,none⟩=some a0∧w.cell? ⟨B,1,none⟩=some a1∧w.cell? ⟨B,2,none⟩=some a2∧w.cell? ⟨B,3,none⟩=some a3∧B<w.heap.size:=⟨h.cell (i:=0) (by rw [List.getElem?_toArray];rfl),h.cell (i:=1) (by rw [List.getElem?_toArray];rfl),h.cell (i:=2) (by rw [List.getElem?_toArray];rfl),h.cell (i:=3) (by rw [List.getElem?_toArray];rfl),h.lt⟩
theorem yFf {w:World} {B:Nat} {t:TypeId} {xs:Array Value} (h:CBox w B t xs):w.frozen? ⟨B,0,none⟩=false∧w.frozen? ⟨B,1,none⟩=false∧w.frozen? ⟨B,2,none⟩=false∧w.frozen? ⟨B,3,none⟩=false:=⟨h.frozen 0,h.frozen 1,h.frozen 2,h.frozen 3⟩
theorem zCv {w:World} {B:Nat} {t:TypeId} {a0 a1 a2 a3 a4 a5:Value} (h:CBox w B t #[a0,a1,a2,a3,a4,a5]):w.cell? ⟨B,0,none⟩=some a0∧w.cell? ⟨B,1,none⟩=some a1∧w.cell? ⟨B,2,none⟩=some a2∧w.cell? ⟨B,3,none⟩=some a3∧w.cell? ⟨B,4,none⟩=some a4∧w.cell? ⟨B,5,none⟩=some a5∧B<w.heap.size:=⟨h.cell (i:=0) rfl,h.cell (i:=1) rfl,h.cell (i:=2) rfl,h.cell (i:=3) rfl,h.cell (i:=4) rfl,h.cell (i:=5) rfl,h.lt⟩
theorem zNl {w:World} {B:Nat} {t:TypeId} {xs:Array Value} (h:CBox w B t xs):w.frozen? ⟨B,0,none⟩=false∧w.frozen? ⟨B,1,none⟩=false∧w.frozen? ⟨B,2,none⟩=false∧w.frozen? ⟨B,3,none⟩=false∧w.frozen? ⟨B,4,none⟩=false∧w.frozen? ⟨B,5,none⟩=false:=⟨h.frozen 0,h.frozen 1,h.frozen 2,h.frozen 3,h.frozen 4,h.frozen 5⟩
theorem zAz {w:World} {B:Nat} {t:TypeId} {a0 a1 a2 a3 a4 a5 a6 a7 a8 a9 a10:Value} (h:CBox w B t #[a0,a1,a2,a3,a4,a5,a6,a7,a8,a9,a10]):w.cell? ⟨B,0,none⟩=some a0∧w.cell? ⟨B,1,none⟩=some a1∧w.cell? ⟨B,2,none⟩=some a2∧w.cell? ⟨B,3,none⟩=some a3∧w.cell? ⟨B,4,none⟩=some a4∧w.cell? ⟨B,5,none⟩=some a5∧w.cell? ⟨B,6,none⟩=some a6∧w.cell? ⟨B,7,none⟩=some a7∧w.cell? ⟨B,8,none⟩=some a8∧w.cell? ⟨B,9,none⟩=some a9∧w.cell? ⟨B,10,none⟩=some a10∧B<w.heap.size:=⟨h.cell (i:=0) rfl,h.cell (i:=1) rfl,h.cell (i:=2) rfl,h.cell (i:=3) rfl,h.cell (i:=4) rfl,h.cell (i:=5) rfl,h.cell (i:=6) rfl,h.cell (i:=7) rfl,h.cell (i:=8) rfl,h.cell (i:=9) rfl,h.cell (i:=10) rfl,h.lt⟩
theorem zEl {w:World} {B:Nat} {t:TypeId} {xs:Array Value} (h:CBox w B t xs):w.frozen? ⟨B,0,none⟩=false∧w.frozen? ⟨B,1,none⟩=false∧w.frozen? ⟨B,2,none⟩=false∧w.frozen? ⟨B,3,none⟩=false∧w.frozen? ⟨B,4,none⟩=false∧w.frozen? ⟨B,5,none⟩=false∧w.frozen? ⟨B,6,none⟩=false∧w.frozen? ⟨B,7,none⟩=false∧w.frozen? ⟨B,8,none⟩=false∧w.frozen? ⟨B,9,none⟩=false∧w.frozen? ⟨B,10,none⟩=false:=⟨h.frozen 0,h.frozen 1,h.frozen 2,h.frozen 3,h.frozen 4,h.frozen 5,h.frozen 6,h.frozen 7,h.frozen 8,h.frozen 9,h.frozen 10⟩
theorem zAq {w w':World} {base:Nat} {e:TypeId} {size:Nat} {v:Value} {n:Nat} {xs:List Value} (h:w.ownsRow base e size v n xs) (m:Bw w w'):w'.ownsRow base e size v n xs:=by
 obtain ⟨h1,h2⟩:=h;refine ⟨h1,?_⟩
 rcases h2 with h2|⟨g,cap,cur,h3,h4,h5,h6⟩
 ·exact .inl h2
 ·exact .inr ⟨g,cap,cur,h3,h4,(m.block g (Array.getElem?_eq_some_iff.1 h5).1).trans h5,h6⟩
theorem zEm {X:List Nat} {w w':World} {base:Nat} {e:TypeId} {size:Nat} {v:Value} {n:Nat} {xs:List Value} (h:w.ownsRow base e size v n xs) (m:Mod X w w') (hx:∀b,v.ownBlock=some b→b∉X):w'.ownsRow base e size v n xs:=by
 obtain ⟨h1,h2⟩:=h;refine ⟨h1,?_⟩
 rcases h2 with h2|⟨g,cap,cur,rfl,h4,h5,h6⟩
 ·exact .inl h2
 ·exact .inr ⟨g,cap,cur,rfl,h4,(m.block g (Array.getElem?_eq_some_iff.1 h5).1 (hx g rfl)).trans h5,h6⟩
def OwnT {α:Type} (w:World) (X:List Nat) (base:Nat) (e:TypeId) (size:Nat) (f:α→List Tree) (v:Value) (l:List α):Prop:=
  ∃xs,w.ownsRow base e size v l.length xs∧ReadsL w (v.ownBlock.toList++X) (l.flatMap f) xs
section
variable {α:Type} {w w':World} {X:List Nat} {base:Nat} {e:TypeId} {size:Nat} {f:α→List Tree} {v v':Value} {l:List α}
theorem OwnT.nil (w:World) (X:List Nat) (base:Nat) (e:TypeId) (size:Nat) (f:α→List Tree):OwnT w X base e size f (.slice none 0 0) []:=⟨[],World.ownsRow_nil w base e size,by simp [ReadsL]⟩
theorem OwnT.val (h:OwnT w X base e size f v l):∃a cap,v=.slice a l.length cap∧l.length≤cap∧cap≤9223372036854775807:=by
 obtain ⟨xs,h1,_⟩:=h;obtain ⟨_,a,cap,e,h2,h3,_⟩:=zAs h1;exact ⟨a,cap,e,h2,by unfold maxLen at h3;omega⟩
theorem OwnT.ge (h:OwnT w X base e size f v l) {b:Nat} (hb:v.ownBlock=some b):base≤b:=by
 obtain ⟨xs,h1,_⟩:=h;exact zLw h1 hb
theorem OwnT.lt (h:OwnT w X base e size f v l) {b:Nat} (hb:v.ownBlock=some b):b<w.heap.size:=by
 obtain ⟨xs,h1,_⟩:=h;exact (h1.lt b hb).2
theorem OwnT.below (h:OwnT w X base e size f v l) (m:Bw w w'):OwnT w' X base e size f v l:=by
 obtain ⟨xs,h1,h2⟩:=h;exact ⟨xs,zAq h1 m,h2.below m⟩
theorem OwnT.mod (h:OwnT w X base e size f v l) (m:Mod X w w') (hx:∀b,v.ownBlock=some b→b∉X):OwnT w' X base e size f v l:=by
 obtain ⟨xs,h1,h2⟩:=h;exact ⟨xs,zEm h1 m hx,h2.mod (m.mono (fun k hk=>List.mem_append_right _ hk))⟩
theorem OwnT.fewer (h:OwnT w X base e size f v l) {Y:List Nat} (hs:∀k,k∈Y→k∈X):OwnT w Y base e size f v l:=by
 obtain ⟨xs,h1,h2⟩:=h
 exact ⟨xs,h1,h2.fewer (fun k hk=>by rcases List.mem_append.1 hk with hk|hk;exact List.mem_append_left _ hk;exact List.mem_append_right _ (hs k hk))⟩
theorem OwnT.more (h:OwnT w X base e size f v l) {k:Nat} (hk:w.heap.size≤k):OwnT w (k::X) base e size f v l:=by
 obtain ⟨xs,h1,h2⟩:=h;refine ⟨xs,h1,(h2.more hk).fewer (fun j hj=>?_)⟩
 rcases List.mem_append.1 hj with hj|hj
 ·exact List.mem_cons_of_mem _ (List.mem_append_left _ hj)
 ·rcases List.mem_cons.1 hj with rfl|hj
  ·exact List.mem_cons_self
  ·exact List.mem_cons_of_mem _ (List.mem_append_right _ hj)
theorem OwnT.reads (h:OwnT w X base e size f v l) (hx:∀b,v.ownBlock=some b→b∉X):Reads w X (rowT size f l) v:=by
 obtain ⟨xs,h1,h2⟩:=h;exact Reads.ofRow (zAs h1) (fun _=>hx) (h2.fewer (fun k hk=>List.mem_append_right _ hk))
theorem OwnT.reads0 (h:OwnT w X base e size f v l):Reads w [] (rowT size f l) v:=(h.fewer (Y:=[]) (by simp)).reads (by simp)
theorem OwnT.grown {xs news:List Value} {a:α} (h1:w.ownsRow base e size v l.length xs) (h2:ReadsL w (v.ownBlock.toList++X) (l.flatMap f) xs) (h3:ReadsL w (v.ownBlock.toList++X) (f a) news)
    (ho:w'.ownsRow base e size v' (l.length+1) (xs++news)) (hg:w.grownBy w' v.ownBlock) (hb:v'.ownBlock=v.ownBlock∨v'.ownBlock=some w.heap.size):OwnT w' X base e size f v' (l++[a]):=by
  have _:=h1
  refine ⟨xs++news,by simpa using ho,?_⟩
  have h4:ReadsL w (v.ownBlock.toList++X) ((l++[a]).flatMap f) (xs++news):=by
    rw [List.flatMap_append,List.flatMap_cons,List.flatMap_nil,List.append_nil];exact ReadsL.append h3 h2
  have m:Mod (w.heap.size::(v.ownBlock.toList++X)) w w':=(zAp hg).mono (fun k hk=>List.mem_cons_of_mem _ (List.mem_append_left _ hk))
  have h5:=(h4.more (Nat.le_refl _)).mod m
  refine h5.fewer (fun k hk=>?_)
  rcases List.mem_append.1 hk with hk|hk
  · rcases hb with hb|hb
    · rw [hb] at hk;exact List.mem_cons_of_mem _ (List.mem_append_left _ hk)
    · rw [hb] at hk
      rw [show k=w.heap.size by simpa using hk]
      exact List.mem_cons_self
  · exact List.mem_cons_of_mem _ (List.mem_append_right _ hk)
end
end Go.Proofs.YtfkjfdbjhlmjcaaGreatDoor
namespace Go.Proofs.YtfkjfdbjhlmjcaaGreatDoor
open Go.RowKit
variable {F:Fence} {n:Nat} {P:Program}
def Iter (F:Fence) (n:Nat) (P:Program) (gf:Nat) (lb:Array Value) (args:List (Array Value)) (n₀:Nat) (Ab:World→World→Prop) (w:World):Prop:=
  ∀(l:Nat) (J Jx:Nat→World→Prop) (W:World),Below w.heap.size w W→(∀k A B,J k A→Ab A B→J k B)→(∀k A B,Jx k A→Ab A B→Jx k B) →
    (∀k (hk:k<args.length) W1,J k W1→YieldAt F (n - 1) P l args[k] W1 fun e W'=>
      (e=.returned (.bool true)∧J (k+1) W'∧Below n₀ W1 W')∨(e=.returned (.bool false)∧Jx (k+1) W')) →
    J 0 W →
    CallsIn F n P gf (#[.func (.yield l) #[] #[]]++lb) W fun e W'=>(∃v,e=.returned v)∧(J args.length W'∨∃k,k≤args.length∧Jx k W')
def iterPost (B n₀:Nat) (I:Nat→World→Prop) (Ix:Code→Nat→World→Prop) (k:Nat) (W:World):Exit→Act→World→Prop
  | .normal,_,W'=>KeepsFrom B W W'∧Below n₀ W W'∧I k W'
  | .ret,_,W'=>KeepsFrom B W W'∧Ix .ret k W'
  | .exit id,_,W'=>KeepsFrom B W W'∧Ix (.exit id) k W'
  | .goto t,_,W'=>KeepsFrom B W W'∧Ix (.goto t) k W'
  | .panic _,_,_=>False
  | .outgrown,_,_=>False
theorem yDj {g:Operand} {ps:Array Tmp} {assign body:Code} {Q:Exit→Act→World→Prop} {a:Act} {w:World}
  (hro:F.round=none) (h1:1≤n) {gf:Nat} {lb:Array Value} (hg:a.eval g=.func (.func gf) #[] lb) (hFg:F.fn gf) (eg:∀args w,(callFunc gf args).run P w=.ok (.enter gf args) w)
  {args:List (Array Value)} {n₀:Nat} {Ab:World→World→Prop} {w0:World} (hseq:Iter F (n - 1) P gf lb args n₀ Ab w0) (hn₀:n₀≤w.heap.size) (hb0:Bw w0 w)
  (hps:∀k (hk:k<args.length),args[k].size=ps.size)
  (I:Nat→World→Prop) (Ix:Code→Nat→World→Prop) (hI:OwnFrom w.heap.size I) (hIx:∀c,OwnFrom w.heap.size (Ix c))
  (hAb:∀A B,Ab A B→∀(k:Nat) (o:Obj),w.heap.size≤k→A.heap[k]?=some o→o.isCells=false→B.heap[k]?=some o)
  (hIA:∀k A B,I k A→Ab A B→I k B) (hIxA:∀c k A B,Ix c k A→Ab A B→Ix c k B)
  (h0:I 0 w) (Ax:Nat→Act→World→Prop) (hAx:∀k a',OwnFrom w.heap.size (fun (_:Unit) W=>Ax k a' W))
  (hassign:∀(l:Nat) (k:Nat) (hk:k<args.length) (W:World) (K:Act→World→Prop),I k W→(∀a' W',KeepsFrom w.heap.size W W'→Below n₀ W W'→I k W'→Ax k a' W'→K a' W') →
   assign.wpIn (F.inRound l) (n - 1 - 1) P (Exit.then K (fun _ _ _=>False)) { tmps:=(ps.zip args[k]).foldl (fun t (p,v)=>t.setIfInBounds p v) a.tmps,defers:=[] } W)
  (hbody:∀(l:Nat) (k:Nat) (_:k<args.length) (a':Act) (W:World),I k W→Ax k a' W→body.wpIn (F.inRound l) (n - 1 - 1) P (iterPost w.heap.size n₀ I Ix (k+1) W) a' W)
  (hdone:∀(D:Nat) (W:World),w.heap.size≤D→I args.length W→W.heap[D]?=some (.deferred (some []))→Q .normal { a with defers:={ target:=.collected D,args:=#[] }::a.defers } W)
  (hstop:∀(D:Nat) (c:Code) (k:Nat) (W:World),w.heap.size≤D→k≤args.length→Ix c k W→W.heap[D]?=some (.deferred (some []))→c.wpIn F n P Q { a with defers:={ target:=.collected D,args:=#[] }::a.defers } W) :
  (Code.rangeFunc g ps assign body).wpIn F n P Q a w:=by
 refine wpIn_rangeFunc fun fn hfn=>?_;rw [hro];generalize hrec:(fun (st:LoopState) (pe:Option Code)=>({ state:=st,pending:=pe,fn,tmps:=a.tmps,params:=ps,assign,body,defers:=w.heap.size }:Loop))=rec;have hr0:∀st pe,({ state:=st,pending:=pe,fn,tmps:=a.tmps,params:=ps,assign,body,defers:=w.heap.size }:Loop)=rec st pe:=fun st pe=>by rw [←hrec]
 generalize hW1:(w.alloc (.deferred (some []))).alloc (.loop (rec .ready none))=W1;have hsz1:W1.heap.size=w.heap.size+2:=by rw [←hW1];simp
 have hL1:W1.heap[w.heap.size+1]?=some (.loop (rec .ready none)):=by
  rw [←hW1];have:=World.alloc_heap_new (w.alloc (.deferred (some []))) (.loop (rec .ready none));rwa [World.size_alloc] at this
 have hK1:W1.heap[w.heap.size]?=some (.deferred (some [])):=by
  rw [←hW1];exact (Below.heap_alloc _ _ _ (by simp)).trans (World.alloc_heap_new w _)
 have hI1:I 0 W1:=by rw [←hW1];exact hI.alloc _ (hI.alloc _ h0)
 have hb1:Bw w0 W1:=by
  rw [←hW1];exact hb0.trans ((((Below.refl _ w).alloc (Nat.le_refl _) _).alloc (by simp) _).mono hb0.size)
 have hKb:∀(W:World) (o o':Obj),W.heap[w.heap.size+1]?=some o→o.isCells=false→o.isWalk=false→Below n₀ W (W.putObj (w.heap.size+1) o'):=
  fun W o o' h hc hw=>belowK_b (w:=w) hn₀ W _ o o' (by omega) h hc hw
 refine ⟨w.heap.size+1,[{ target:=.collected w.heap.size,args:=#[] }],W1,{ target:=.fn (.func gf) lb,args:=#[.func (.yield (w.heap.size+1)) #[] #[]] },W1,gf,
  #[.func (.yield (w.heap.size+1)) #[] #[]]++lb,W1,?_,?_,?_,?_,fun _=>h1,?_⟩
 ·rw [←hW1,←hr0];exact run_enterLoop_outer _ _ _ _ _
 ·simp only [resolve,hg]
  simp [go_sem]
 ·intro f' hf';simp [Target.leads] at hf';subst hf';exact hFg
 ·simp [invoke,go_sem,eg]
 ·refine (hseq (w.heap.size+1)
   (fun k W=>I k W∧W.heap[w.heap.size+1]?=some (.loop (rec .ready none))∧W.heap[w.heap.size]?=some (.deferred (some [])))
   (fun k W=>∃c,Ix c k W∧W.heap[w.heap.size+1]?=some (.loop (rec .done (some c)))∧W.heap[w.heap.size]?=some (.deferred (some [])))
   W1 hb1
   (fun k A B hs hab=>⟨hIA k A B hs.1 hab,hAb A B hab _ _ (by omega) hs.2.1 rfl,hAb A B hab _ _ (by omega) hs.2.2 rfl⟩)
   (fun k A B hs hab=>by
    obtain ⟨c,hc,hl,hk⟩:=hs
    exact ⟨c,hIxA c k A B hc hab,hAb A B hab _ _ (by omega) hl rfl,hAb A B hab _ _ (by omega) hk rfl⟩)
   ?_ ⟨hI1,hL1,hK1⟩).mono ?_
  ·rintro k hk W ⟨hi,hl,hd⟩
   have hy:=run_yield (P:=P) (args:=args[k]) hl (by rw [←hr0];exact hps k hk);rw [←hr0] at hy;refine ⟨fn,_,assign,body,hy,roundIn_of_wpIn hfn (hassign _ k hk W _ hi ?_)⟩;clear hy;intro a' Wa hkfa hkpa hia hax;have hla:=hkfa.same _ _ (by omega) hl rfl;have hda:=hkfa.same _ _ (Nat.le_refl _) hd rfl;have hlt:w.heap.size+1<Wa.heap.size:=(Array.getElem?_eq_some_iff.1 hla).1;refine ⟨_,run_beginRound hla (by rw [←hr0]),?_⟩
   have hl2:(Wa.putObj (w.heap.size+1) (.loop { rec .ready none with state:=.busy })).heap[w.heap.size+1]?=some (.loop { rec .ready none with state:=.busy }):=World.putObj_heap_same hlt;have hd2:(Wa.putObj (w.heap.size+1) (.loop { rec .ready none with state:=.busy })).heap[w.heap.size]?=some (.deferred (some [])):=(World.putObj_heap_other (by omega)).trans hda;have hw2:=hKb Wa _ (.loop { rec .ready none with state:=.busy }) hla rfl rfl
   refine wpIn_mono (hbody _ k hk a' _ (hI.putObj _ hia (by omega) hla rfl) ((hAx k a').putObj (s:=()) _ hax (by omega) hla rfl)) ?_
   have fin:∀(jump:Option Code) (W3:World),KeepsFrom w.heap.size (Wa.putObj (w.heap.size+1) (.loop { rec .ready none with state:=.busy })) W3 →
     (Instr.endRound (w.heap.size+1) jump).run P W3=.ok (.bool jump.isNone) (W3.putObj (w.heap.size+1) (.loop (rec (if jump.isNone then .ready else .done) jump))) ∧
     (∃o,W3.heap[w.heap.size+1]?=some (.loop o)) ∧
     (W3.putObj (w.heap.size+1) (.loop (rec (if jump.isNone then .ready else .done) jump))).heap[w.heap.size+1]?=some (.loop (rec (if jump.isNone then .ready else .done) jump)) ∧
     (W3.putObj (w.heap.size+1) (.loop (rec (if jump.isNone then .ready else .done) jump))).heap[w.heap.size]?=some (.deferred (some [])):=fun jump W3 hk3=>by
    have hl3:=hk3.same _ _ (by omega) hl2 rfl;have:=run_endRound (P:=P) jump hl3;rw [←hr0] at this ⊢;exact ⟨this,⟨_,hl3⟩,World.putObj_heap_same (Array.getElem?_eq_some_iff.1 hl3).1,(World.putObj_heap_other (by omega)).trans (hk3.same _ _ (Nat.le_refl _) hd2 rfl)⟩
   rintro e a3 W3 hp
   cases e with
   | normal=>
    obtain ⟨hk3,hkp3,hi3⟩:=hp;obtain ⟨hr,⟨o,hl3⟩,hl4,hd4⟩:=fin none W3 hk3;exact ⟨_,_,hr,.inl ⟨rfl,⟨hI.putObj _ hi3 (by omega) hl3 rfl,hl4,hd4⟩,hkpa.trans ((hw2.trans hkp3).trans (hKb _ _ _ hl3 rfl rfl))⟩⟩
   | ret=>
    obtain ⟨hk3,hi3⟩:=hp;obtain ⟨hr,⟨o,hl3⟩,hl4,hd4⟩:=fin (some .ret) W3 hk3;exact ⟨_,_,hr,.inr ⟨rfl,.ret,(hIx _).putObj _ hi3 (by omega) hl3 rfl,hl4,hd4⟩⟩
   | exit id=>
    obtain ⟨hk3,hi3⟩:=hp;obtain ⟨hr,⟨o,hl3⟩,hl4,hd4⟩:=fin (some (.exit id)) W3 hk3;exact ⟨_,_,hr,.inr ⟨rfl,.exit id,(hIx _).putObj _ hi3 (by omega) hl3 rfl,hl4,hd4⟩⟩
   | goto t=>
    obtain ⟨hk3,hi3⟩:=hp;obtain ⟨hr,⟨o,hl3⟩,hl4,hd4⟩:=fin (some (.goto t)) W3 hk3;exact ⟨_,_,hr,.inr ⟨rfl,.goto t,(hIx _).putObj _ hi3 (by omega) hl3 rfl,hl4,hd4⟩⟩
   | panic ch=>exact hp.elim
   | outgrown=>exact hp.elim
  ·rintro e W2 ⟨⟨v,rfl⟩,(⟨hi,hl,hd⟩|⟨k,hk,c,hi,hl,hd⟩)⟩
   ·exact ⟨none,_,by have:=run_endLoop (P:=P) hl (by rw [←hr0];simp);rw [←hr0] at this;exact this,hdone _ _ (Nat.le_refl _) (hI.putObj _ hi (by omega) hl rfl) ((World.putObj_heap_other (by omega)).trans hd)⟩
   ·exact ⟨some c,_,by have:=run_endLoop (P:=P) hl (by rw [←hr0];simp);rw [←hr0] at this;exact this,hstop _ c k _ (Nat.le_refl _) hk ((hIx c).putObj _ hi (by omega) hl rfl) ((World.putObj_heap_other (by omega)).trans hd)⟩
end Go.Proofs.YtfkjfdbjhlmjcaaGreatDoor
namespace Go.Proofs.YtfkjfdbjhlmjcaaGreatDoor
open Go.RowKit
variable {F:Fence} {n:Nat} {P:Program}
def IterK (F:Fence) (n:Nat) (P:Program) (gf:Nat) (lb:Array Value) (args:List (Array Value)) (Kp:World→World→Prop) (Ab:World→World→Prop) (w:World):Prop:=
  ∀(l:Nat) (J Jx:Nat→World→Prop) (W:World),Below w.heap.size w W→(∀k A B,J k A→Ab A B→J k B)→(∀k A B,Jx k A→Ab A B→Jx k B) →
    (∀k (hk:k<args.length) W1,J k W1→YieldAt F (n - 1) P l args[k] W1 fun e W'=>
      (e=.returned (.bool true)∧J (k+1) W'∧Kp W1 W')∨(e=.returned (.bool false)∧Jx (k+1) W')) →
    J 0 W →
    CallsIn F n P gf (#[.func (.yield l) #[] #[]]++lb) W fun e W'=>(∃v,e=.returned v)∧(J args.length W'∨∃k,k≤args.length∧Jx k W')
def iterPostK (B:Nat) (Kp:World→World→Prop) (I:Nat→World→Prop) (Ix:Code→Nat→World→Prop) (k:Nat) (W:World):Exit→Act→World→Prop
  | .normal,_,W'=>KeepsFrom B W W'∧Kp W W'∧I k W'
  | .ret,_,W'=>KeepsFrom B W W'∧Ix .ret k W'
  | .exit id,_,W'=>KeepsFrom B W W'∧Ix (.exit id) k W'
  | .goto t,_,W'=>KeepsFrom B W W'∧Ix (.goto t) k W'
  | .panic _,_,_=>False
  | .outgrown,_,_=>False
theorem yAo {g:Operand} {ps:Array Tmp} {assign body:Code} {Q:Exit→Act→World→Prop} {a:Act} {w:World}
  (hro:F.round=none) (h1:1≤n) {gf:Nat} {lb:Array Value} (hg:a.eval g=.func (.func gf) #[] lb) (hFg:F.fn gf) (eg:∀args w,(callFunc gf args).run P w=.ok (.enter gf args) w)
  {args:List (Array Value)} {Kp Ab:World→World→Prop} {w0:World} (hseq:IterK F (n - 1) P gf lb args Kp Ab w0) (hKt:∀a b c,Kp a b→Kp b c→Kp a c) (hKb:∀(W:World) (o o':Obj),W.heap[w.heap.size+1]?=some o→o.isCells=false→o.isWalk=false→Kp W (W.putObj (w.heap.size+1) o')) (hb0:Bw w0 w)
  (hps:∀k (hk:k<args.length),args[k].size=ps.size)
  (I:Nat→World→Prop) (Ix:Code→Nat→World→Prop) (hI:OwnFrom w.heap.size I) (hIx:∀c,OwnFrom w.heap.size (Ix c))
  (hAb:∀A B,Ab A B→∀(k:Nat) (o:Obj),w.heap.size≤k→A.heap[k]?=some o→o.isCells=false→B.heap[k]?=some o)
  (hIA:∀k A B,I k A→Ab A B→I k B) (hIxA:∀c k A B,Ix c k A→Ab A B→Ix c k B)
  (h0:I 0 w) (Ax:Nat→Act→World→Prop) (hAx:∀k a',OwnFrom w.heap.size (fun (_:Unit) W=>Ax k a' W))
  (hassign:∀(l:Nat) (k:Nat) (hk:k<args.length) (W:World) (K:Act→World→Prop),I k W→(∀a' W',KeepsFrom w.heap.size W W'→Kp W W'→I k W'→Ax k a' W'→K a' W') →
   assign.wpIn (F.inRound l) (n - 1 - 1) P (Exit.then K (fun _ _ _=>False)) { tmps:=(ps.zip args[k]).foldl (fun t (p,v)=>t.setIfInBounds p v) a.tmps,defers:=[] } W)
  (hbody:∀(l:Nat) (k:Nat) (_:k<args.length) (a':Act) (W:World),I k W→Ax k a' W→body.wpIn (F.inRound l) (n - 1 - 1) P (iterPostK w.heap.size Kp I Ix (k+1) W) a' W)
  (hdone:∀(D:Nat) (W:World),w.heap.size≤D→I args.length W→W.heap[D]?=some (.deferred (some []))→Q .normal { a with defers:={ target:=.collected D,args:=#[] }::a.defers } W)
  (hstop:∀(D:Nat) (c:Code) (k:Nat) (W:World),w.heap.size≤D→k≤args.length→Ix c k W→W.heap[D]?=some (.deferred (some []))→c.wpIn F n P Q { a with defers:={ target:=.collected D,args:=#[] }::a.defers } W) :
  (Code.rangeFunc g ps assign body).wpIn F n P Q a w:=by
 refine wpIn_rangeFunc fun fn hfn=>?_;rw [hro];generalize hrec:(fun (st:LoopState) (pe:Option Code)=>({ state:=st,pending:=pe,fn,tmps:=a.tmps,params:=ps,assign,body,defers:=w.heap.size }:Loop))=rec;have hr0:∀st pe,({ state:=st,pending:=pe,fn,tmps:=a.tmps,params:=ps,assign,body,defers:=w.heap.size }:Loop)=rec st pe:=fun st pe=>by rw [←hrec]
 generalize hW1:(w.alloc (.deferred (some []))).alloc (.loop (rec .ready none))=W1;have hsz1:W1.heap.size=w.heap.size+2:=by rw [←hW1];simp
 have hL1:W1.heap[w.heap.size+1]?=some (.loop (rec .ready none)):=by
  rw [←hW1];have:=World.alloc_heap_new (w.alloc (.deferred (some []))) (.loop (rec .ready none));rwa [World.size_alloc] at this
 have hK1:W1.heap[w.heap.size]?=some (.deferred (some [])):=by
  rw [←hW1];exact (Below.heap_alloc _ _ _ (by simp)).trans (World.alloc_heap_new w _)
 have hI1:I 0 W1:=by rw [←hW1];exact hI.alloc _ (hI.alloc _ h0)
 have hb1:Bw w0 W1:=by
  rw [←hW1];exact hb0.trans ((((Below.refl _ w).alloc (Nat.le_refl _) _).alloc (by simp) _).mono hb0.size)
 refine ⟨w.heap.size+1,[{ target:=.collected w.heap.size,args:=#[] }],W1,{ target:=.fn (.func gf) lb,args:=#[.func (.yield (w.heap.size+1)) #[] #[]] },W1,gf,
  #[.func (.yield (w.heap.size+1)) #[] #[]]++lb,W1,?_,?_,?_,?_,fun _=>h1,?_⟩
 ·rw [←hW1,←hr0];exact run_enterLoop_outer _ _ _ _ _
 ·simp only [resolve,hg]
  simp [go_sem]
 ·intro f' hf';simp [Target.leads] at hf';subst hf';exact hFg
 ·simp [invoke,go_sem,eg]
 ·refine (hseq (w.heap.size+1)
   (fun k W=>I k W∧W.heap[w.heap.size+1]?=some (.loop (rec .ready none))∧W.heap[w.heap.size]?=some (.deferred (some [])))
   (fun k W=>∃c,Ix c k W∧W.heap[w.heap.size+1]?=some (.loop (rec .done (some c)))∧W.heap[w.heap.size]?=some (.deferred (some [])))
   W1 hb1
   (fun k A B hs hab=>⟨hIA k A B hs.1 hab,hAb A B hab _ _ (by omega) hs.2.1 rfl,hAb A B hab _ _ (by omega) hs.2.2 rfl⟩)
   (fun k A B hs hab=>by
    obtain ⟨c,hc,hl,hk⟩:=hs
    exact ⟨c,hIxA c k A B hc hab,hAb A B hab _ _ (by omega) hl rfl,hAb A B hab _ _ (by omega) hk rfl⟩)
   ?_ ⟨hI1,hL1,hK1⟩).mono ?_
  ·rintro k hk W ⟨hi,hl,hd⟩
   have hy:=run_yield (P:=P) (args:=args[k]) hl (by rw [←hr0];exact hps k hk);rw [←hr0] at hy;refine ⟨fn,_,assign,body,hy,roundIn_of_wpIn hfn (hassign _ k hk W _ hi ?_)⟩;clear hy;intro a' Wa hkfa hkpa hia hax;have hla:=hkfa.same _ _ (by omega) hl rfl;have hda:=hkfa.same _ _ (Nat.le_refl _) hd rfl;have hlt:w.heap.size+1<Wa.heap.size:=(Array.getElem?_eq_some_iff.1 hla).1;refine ⟨_,run_beginRound hla (by rw [←hr0]),?_⟩
   have hl2:(Wa.putObj (w.heap.size+1) (.loop { rec .ready none with state:=.busy })).heap[w.heap.size+1]?=some (.loop { rec .ready none with state:=.busy }):=World.putObj_heap_same hlt;have hd2:(Wa.putObj (w.heap.size+1) (.loop { rec .ready none with state:=.busy })).heap[w.heap.size]?=some (.deferred (some [])):=(World.putObj_heap_other (by omega)).trans hda;have hw2:=hKb Wa _ (.loop { rec .ready none with state:=.busy }) hla rfl rfl
   refine wpIn_mono (hbody _ k hk a' _ (hI.putObj _ hia (by omega) hla rfl) ((hAx k a').putObj (s:=()) _ hax (by omega) hla rfl)) ?_
   have fin:∀(jump:Option Code) (W3:World),KeepsFrom w.heap.size (Wa.putObj (w.heap.size+1) (.loop { rec .ready none with state:=.busy })) W3 →
     (Instr.endRound (w.heap.size+1) jump).run P W3=.ok (.bool jump.isNone) (W3.putObj (w.heap.size+1) (.loop (rec (if jump.isNone then .ready else .done) jump))) ∧
     (∃o,W3.heap[w.heap.size+1]?=some (.loop o)) ∧
     (W3.putObj (w.heap.size+1) (.loop (rec (if jump.isNone then .ready else .done) jump))).heap[w.heap.size+1]?=some (.loop (rec (if jump.isNone then .ready else .done) jump)) ∧
     (W3.putObj (w.heap.size+1) (.loop (rec (if jump.isNone then .ready else .done) jump))).heap[w.heap.size]?=some (.deferred (some [])):=fun jump W3 hk3=>by
    have hl3:=hk3.same _ _ (by omega) hl2 rfl;have:=run_endRound (P:=P) jump hl3;rw [←hr0] at this ⊢;exact ⟨this,⟨_,hl3⟩,World.putObj_heap_same (Array.getElem?_eq_some_iff.1 hl3).1,(World.putObj_heap_other (by omega)).trans (hk3.same _ _ (Nat.le_refl _) hd2 rfl)⟩
   rintro e a3 W3 hp
   cases e with
   | normal=>
    obtain ⟨hk3,hkp3,hi3⟩:=hp;obtain ⟨hr,⟨o,hl3⟩,hl4,hd4⟩:=fin none W3 hk3;exact ⟨_,_,hr,.inl ⟨rfl,⟨hI.putObj _ hi3 (by omega) hl3 rfl,hl4,hd4⟩,hKt _ _ _ hkpa (hKt _ _ _ (hKt _ _ _ hw2 hkp3) (hKb _ _ _ hl3 rfl rfl))⟩⟩
   | ret=>
    obtain ⟨hk3,hi3⟩:=hp;obtain ⟨hr,⟨o,hl3⟩,hl4,hd4⟩:=fin (some .ret) W3 hk3;exact ⟨_,_,hr,.inr ⟨rfl,.ret,(hIx _).putObj _ hi3 (by omega) hl3 rfl,hl4,hd4⟩⟩
   | exit id=>
    obtain ⟨hk3,hi3⟩:=hp;obtain ⟨hr,⟨o,hl3⟩,hl4,hd4⟩:=fin (some (.exit id)) W3 hk3;exact ⟨_,_,hr,.inr ⟨rfl,.exit id,(hIx _).putObj _ hi3 (by omega) hl3 rfl,hl4,hd4⟩⟩
   | goto t=>
    obtain ⟨hk3,hi3⟩:=hp;obtain ⟨hr,⟨o,hl3⟩,hl4,hd4⟩:=fin (some (.goto t)) W3 hk3;exact ⟨_,_,hr,.inr ⟨rfl,.goto t,(hIx _).putObj _ hi3 (by omega) hl3 rfl,hl4,hd4⟩⟩
   | panic ch=>exact hp.elim
   | outgrown=>exact hp.elim
  ·rintro e W2 ⟨⟨v,rfl⟩,(⟨hi,hl,hd⟩|⟨k,hk,c,hi,hl,hd⟩)⟩
   ·exact ⟨none,_,by have:=run_endLoop (P:=P) hl (by rw [←hr0];simp);rw [←hr0] at this;exact this,hdone _ _ (Nat.le_refl _) (hI.putObj _ hi (by omega) hl rfl) ((World.putObj_heap_other (by omega)).trans hd)⟩
   ·exact ⟨some c,_,by have:=run_endLoop (P:=P) hl (by rw [←hr0];simp);rw [←hr0] at this;exact this,hstop _ c k _ (Nat.le_refl _) hk ((hIx c).putObj _ hi (by omega) hl rfl) ((World.putObj_heap_other (by omega)).trans hd)⟩
end Go.Proofs.YtfkjfdbjhlmjcaaGreatDoor
namespace Go.Proofs.YtfkjfdbjhlmjcaaGreatDoor
open Go.RowKit
def idxS (s:ByteArray):Int:=if slashS s<s.size then slashS s else -1
theorem zPd (l:List UInt8):Lib.indexByte l 47=if slashAt l<l.length then (slashAt l:Int) else -1:=by
 induction l with
 | nil=>rfl
 | cons c r ih=>
  unfold Lib.indexByte;unfold slashAt at ih ⊢;rw [List.findIdx_cons,ih]
  by_cases hc:c=47
  ·simp [hc]
  ·have hb:(c==47)=false:=by simp [hc]
   rw [hb];have:List.findIdx (fun x=>x==47) r≤r.length:=List.findIdx_le_length
   by_cases h:List.findIdx (fun x=>x==47) r<r.length
   ·rw [if_pos h];simp only [cond_false,Bool.false_eq_true,if_false,List.length_cons]
    rw [if_neg (by simp),if_pos (by omega)];omega
   ·rw [if_neg h];simp [h]
theorem zXd (s:ByteArray):Lib.indexByte s.data.toList 47=idxS s:=by
 rw [zPd,idxS,sz];rfl
theorem yDk (s:ByteArray) (w:World) :
  (callFunc 238 #[.string s,.int .u8 47]).run Tryz.prog w=.ok (.value (.int .i64 (idxS s))) w:=by
 rw [run_callFunc_indexByte (fn:=Tryz.f238) Tryz.func238 (by kernel_rfl) (by kernel_rfl) (by kernel_rfl) (by kernel_rfl),Lib.run_indexByteString];show Result.ok (Next.value (.int .i64 (Lib.indexByte s.data.toList 47))) w=_
 rw [zXd]
theorem zJp (s:ByteArray) (w:World) :
  Calls Tryz.prog 202 #[.string s,.string ⟨#[47]⟩] w fun e w'=>e=.returned (.int .i64 (idxS s))∧w=w':=by
 have hrun:=yDk;have e47:((⟨#[47]⟩:ByteArray)[0]'(by decide)).toNat=47:=rfl
 by_cases h:s.toList=[47]
 ·have H:Hid (idxS s=0):=by
   show _=_
   rw [tl] at h;rw [←zXd,h];rfl
  go_enter Tryz.func202,Tryz.ntmps202
  go_wp2;go_ret;exact ⟨zAc (by rw [H.o]),rfl⟩
 ·have h':([47]==s.toList)=false:=by rw [beq_eq_false_iff_ne];exact fun e=>h e.symm
  go_enter Tryz.func202,Tryz.ntmps202
  go_wp2;go_ret;exact ⟨rfl,rfl⟩
theorem yAp (c:UInt8):((c.toNat:Int)==47)=decide (c=47):=by
 rw [Bool.eq_iff_iff,beq_iff_eq,decide_eq_true_eq,←UInt8.toNat_inj];show _↔c.toNat=47
 omega
theorem zGg (s:ByteArray) (w:World) (hs:s.size≤40000) :
  Calls Tryz.prog 182 #[.string s,.int .u8 47] w fun e w'=>e=.returned (.int .i64 (lastSlS s))∧w=w':=by
 go_enter Tryz.func182,Tryz.ntmps182
 go_wp2
 go_loop [5] (fun i=>∃k:Nat,k≤s.size∧i=.int .i64 ((k:Int) - 1)∧Hid (lastSlS s=lastSlFrom s.data.toList k)) (fun i=>(intOf i+1).toNat)
 case atStart=>exact ⟨s.size,Nat.le_refl _,rfl,rfl⟩
 case round=>
  obtain ⟨k,hk,rfl,HK⟩:=hrel
  cases k with
  | zero=>
   go_wp2;go_ret;exact ⟨zAc (by rw [HK.o];rfl),rfl⟩
  | succ k=>
   have hlt:k<s.size:=by omega
   have ek:(((k+1:Nat):Int) - 1)=(k:Int):=by omega
   rw [ek];clear ek;have hg:=zHu s k hlt
   by_cases hc:s[k]=47
   ·have hb:((s[k].toNat:Int)==47)=true:=by rw [yAp];simp [hc]
    have HF:Hid (lastSlS s=k):=by show _=_;rw [HK.o,lastSlFrom,if_pos (by rw [hg,hc])]
    clear hg hc;go_wp2;go_ret;exact ⟨zAc (by rw [HF.o]),rfl⟩
   ·have hb:((s[k].toNat:Int)==47)=false:=by rw [yAp];simp [hc]
    have HF:Hid (lastSlS s=lastSlFrom s.data.toList k):=by show _=_;rw [HK.o,lastSlFrom,if_neg (by rw [hg];exact hc)]
    clear hg hc;go_wp2
    go_round
    case rel=>exact ⟨k,by omega,rfl,HF⟩
    case measure=>simp [intOf]
end Go.Proofs.YtfkjfdbjhlmjcaaGreatDoor
namespace Go.Proofs.YtfkjfdbjhlmjcaaGreatDoor
open Go.RowKit Go.Shelf
attribute [local go_sem] Oper.semAt_some
def bOf (l:List UInt8):ByteArray:=⟨l.toArray⟩
theorem zTi (l:List UInt8):(bOf l).data.toList=l:=rfl
def partsOf (s:ByteArray):List (Array Value):=(split s.data.toList).map fun l=>#[.string (bOf l)]
theorem zPe {s:ByteArray} (h:slashS s<s.size):partsOf s=#[.string (s.extract 0 (slashS s))]::partsOf (s.extract (slashS s+1) s.size):=by
 unfold partsOf;rw [zLs (by rw [sz];exact h),List.map_cons,yDc,←zRh];rfl
theorem zPf {s:ByteArray} (h:¬slashS s<s.size):partsOf s=[#[.string s]]:=by
 have:slashS s=s.size:=by
  have:slashS s≤s.size:=by rw [←sz];exact zHv _
  omega
 unfold partsOf;rw [zLr (by rw [sz];exact this)];rfl
def cellLen (w:World) (a:Addr):Nat:=match w.cell? a with|some (.string t)=>t.size|_=>0
theorem zLx {w:World} {a:Addr} {t:ByteArray} (h:w.cell? a=some (.string t)):cellLen w a=t.size:=by simp [cellLen,h]
theorem zGr {α:Type} {l:List α} {k:Nat} {x:α} {r:List α} (h:l.drop k=x::r):∃hk:k<l.length,l[k]=x∧l.drop (k+1)=r:=by
 have hk:k<l.length:=by
  refine Nat.lt_of_not_le fun hle=>?_;rw [List.drop_eq_nil_of_le hle] at h;cases h
 rw [List.drop_eq_getElem_cons hk] at h
 cases h
 exact ⟨hk,rfl,rfl⟩
theorem zLj (s:ByteArray) (hs:s.size≤40000) (w:World) (Bs Bp Bv n₀:Nat) (hn:n₀≤w.heap.size) (b1:Bs<n₀) (b2:Bp<n₀) (b3:Bv<n₀) (hne1:Bs≠Bp) (hne2:Bs≠Bv)
  (c1:w.cell? ⟨Bs,0,none⟩=some (.string s)) (f1:w.frozen? ⟨Bs,0,none⟩=false) (c2:w.cell? ⟨Bp,0,none⟩=some (.string ⟨#[47]⟩)) (c3:w.cell? ⟨Bv,0,none⟩=some (.int .i64 0)) :
  Iter Fence.wide 4 Tryz.prog 200 #[.pointer (some ⟨Bp,0,none⟩),.pointer (some ⟨Bs,0,none⟩),.pointer (some ⟨Bv,0,none⟩)] (partsOf s) n₀ (fun A B=>∃v,B=A.setCell ⟨Bs,0,none⟩ v) w:=by
 intro l J Jx W hW hJ hJx hY h0;have d1:W.cell? ⟨Bs,0,none⟩=some (.string s):=(hW.cell (p:=⟨Bs,0,none⟩) (by show Bs<_;omega)).trans c1;have d2:W.cell? ⟨Bp,0,none⟩=some (.string ⟨#[47]⟩):=(hW.cell (p:=⟨Bp,0,none⟩) (by show Bp<_;omega)).trans c2;have d3:W.cell? ⟨Bv,0,none⟩=some (.int .i64 0):=(hW.cell (p:=⟨Bv,0,none⟩) (by show Bv<_;omega)).trans c3;have g1:W.frozen? ⟨Bs,0,none⟩=false:=(hW.frozen (p:=⟨Bs,0,none⟩) (by show Bs<_;omega)).trans f1;clear c1 f1 c2 c3 hW;have HY:=lH hY;have HJ:=lH hJ;have HJx:=lH hJx
 clear hY hJ hJx;show CallsIn Fence.wide 4 Tryz.prog 200 #[.func (.yield l) #[] #[],.pointer (some ⟨Bp,0,none⟩),.pointer (some ⟨Bs,0,none⟩),.pointer (some ⟨Bv,0,none⟩)] W _
 refine callsIn_of_wp Tryz.func200 rfl trivial ?_ rfl;simp only [Tryz.ntmps200,List.size_toArray,List.length_cons,List.length_nil,Nat.reduceAdd,Nat.reduceSub,Array.replicate_succ,Array.replicate_zero,List.push_toArray,List.append_toArray,List.nil_append,List.cons_append]
 gi_wp2
 gi_loopw [7] (fun _ wr=>∃(k:Nat) (t:ByteArray),t.size≤40000∧wr.cell? ⟨Bs,0,none⟩=some (.string t)∧wr.cell? ⟨Bp,0,none⟩=some (.string ⟨#[47]⟩)∧wr.cell? ⟨Bv,0,none⟩=some (.int .i64 0)∧wr.frozen? ⟨Bs,0,none⟩=false∧Hid ((partsOf s).drop k=partsOf t)∧J k wr)
  (fun _ wr=>cellLen wr ⟨Bs,0,none⟩)
 case atStart=>exact ⟨0,s,hs,d1,d2,d3,g1,rfl,h0⟩
 case round=>
  obtain ⟨k,t,ht,e1,e2,e3,q1,HD,hJk⟩:=hrel;clear d1 d2 d3 g1 h0
  by_cases hlt:slashS t<t.size
  ·have HI:Hid (idxS t=slashS t):=by show _=_;unfold idxS;rw [if_pos hlt]
   obtain ⟨hk,ha,hd⟩:=zGr (HD.o.trans (zPe hlt));have HD2:=lH hd;clear hd;have hy:=HY.o k hk wr hJk;rw [ha] at hy;obtain ⟨fn,tmps,assign,body,hy,hR⟩:=hy;clear ha;generalize hm:slashS t=m at *;have HM:=lH hm;clear hm
   gi_wp2_with (refine ⟨trivial,?_⟩;gi_at_call 202;refine (callsIn_wide.2 (zJp _ _)).mono ?_;rintro e w' ⟨rfl,rfl⟩;rw [HI.o])
   refine hR.mono ?_;rintro e W3 (⟨rfl,hJ3,hk3⟩|⟨rfl,hJx3⟩)
   ·have e1':W3.cell? ⟨Bs,0,none⟩=some (.string t):=(hk3.cell (p:=⟨Bs,0,none⟩) b1).trans e1
    have e2':W3.cell? ⟨Bp,0,none⟩=some (.string ⟨#[47]⟩):=(hk3.cell (p:=⟨Bp,0,none⟩) b2).trans e2;have e3':W3.cell? ⟨Bv,0,none⟩=some (.int .i64 0):=(hk3.cell (p:=⟨Bv,0,none⟩) b3).trans e3;have q1':W3.frozen? ⟨Bs,0,none⟩=false:=(hk3.frozen (p:=⟨Bs,0,none⟩) b1).trans q1;have hJ4:=lH (HJ.o (k+1) W3 (W3.setCell ⟨Bs,0,none⟩ (.string (t.extract (m+1) t.size))) hJ3 ⟨_,rfl⟩);clear hR hy
    gi_wp2
    go_roundw
    case rel=>
     refine ⟨k+1,t.extract (m+1) t.size,by simp;omega,World.cell?_setCell_same' _ _ _ (by rw [e1'];rfl),?_,?_,?_,?_,hJ4.out⟩
     ·rw [zJb _ _ _ _ (by show Bp≠Bs;omega)];exact e2'
     ·rw [zJb _ _ _ _ (by show Bv≠Bs;omega)];exact e3'
     ·rw [World.frozen?_setCell];exact q1'
     ·show _=_
      rw [HD2.o]
    case measure=>
     rw [zLx e1,zLx (World.cell?_setCell_same' _ _ _ (by rw [e1'];rfl))];simp;omega
   ·gi_wp2
    refine bodyPost_ret (results_none rfl _ _ _) rfl ?_;exact ⟨⟨_,rfl⟩,.inr ⟨k+1,by omega,hJx3⟩⟩
  ·have HI:Hid (idxS t=-1):=by show _=_;unfold idxS;rw [if_neg hlt]
   obtain ⟨hk,ha,hd⟩:=zGr (HD.o.trans (zPf hlt))
   have hlen:k+1=(partsOf s).length:=by
    have:=congrArg List.length hd;rw [List.length_drop,List.length_nil] at this;omega
   have HL:=lH hlen;clear hd hlen;have hy:=HY.o k hk wr hJk;rw [ha] at hy;obtain ⟨fn,tmps,assign,body,hy,hR⟩:=hy;clear ha
   gi_wp2_with (refine ⟨trivial,?_⟩;gi_at_call 202;refine (callsIn_wide.2 (zJp _ _)).mono ?_;rintro e w' ⟨rfl,rfl⟩;rw [HI.o])
   refine hR.mono ?_;rintro e W3 (⟨rfl,hJ3,hk3⟩|⟨rfl,hJx3⟩)
   ·clear hR hy
    gi_wp2
    go_end0
    exact ⟨⟨_,rfl⟩,.inl (by rw [←HL.o];exact hJ3)⟩
   ·clear hR hy
    gi_wp2
    go_end0
    exact ⟨⟨_,rfl⟩,.inr ⟨k+1,by omega,hJx3⟩⟩
end Go.Proofs.YtfkjfdbjhlmjcaaGreatDoor
namespace Go.Proofs.YtfkjfdbjhlmjcaaGreatDoor
open Go.RowKit
def memS (s:ByteArray) (ss:List ByteArray):Bool:=ss.any fun t=>s.data.toList==t.data.toList
def IdxPost (s:ByteArray) (ss:List ByteArray) (w:World) (e:Ending) (w':World):Prop:=∃r:Int,e=.returned (.int .i64 r)∧decide (0≤r)=memS s ss∧w=w'
theorem zXe {s:ByteArray} {ss:List ByteArray} {k:Nat} (hk:k<ss.length) (h:(s.toList==(ss.getD k ByteArray.empty).toList)=true):memS s ss=true:=by
 rw [memS,List.any_eq_true];refine ⟨ss[k],List.getElem_mem hk,?_⟩;rw [List.getD_eq_getElem?_getD,List.getElem?_eq_getElem hk,tl,tl] at h;exact h
theorem zPg {s:ByteArray} {ss:List ByteArray} (h:∀k,k<ss.length→(s.toList==(ss.getD k ByteArray.empty).toList)=false):memS s ss=false:=by
 rw [memS,List.any_eq_false];intro t ht;obtain ⟨k,hk,rfl⟩:=List.getElem_of_mem ht;have:=h k hk;rw [List.getD_eq_getElem?_getD,List.getElem?_eq_getElem hk,tl,tl] at this;rw [Bool.not_eq_true];exact this
theorem zUx (v:Value) (s:ByteArray) (ss:List ByteArray) (w:World) (hv:Strs w v ss) (hn:ss.length≤40000) :
  Calls Tryz.prog 139 #[v,.string s] w (IdxPost s ss w):=by
 obtain ⟨a,cap,rfl,h1,h2,h3⟩:=hv.shape;have HV:=lH h3;clear h3 hv
 go_enter Tryz.func139,Tryz.ntmps139
 go_wp2
 go_loop [8] (fun i=>∃k:Nat,k≤ss.length∧i=.int .i64 k∧Hid (∀j,j<k→(s.toList==(ss.getD j ByteArray.empty).toList)=false)) (fun i=>ss.length - (intOf i).toNat)
 case atStart=>exact ⟨0,Nat.zero_le _,rfl,fun j hj=>by omega⟩
 case round=>
  obtain ⟨k,hk,rfl,HK⟩:=hrel
  by_cases hlt:k<ss.length
  ·obtain ⟨b,o,rfl,hb,hc⟩:=HV.o k hlt
   have hcell:=hc k hlt;clear hc;generalize ht:ss.getD k ByteArray.empty=t at *;have HT:=lH ht;clear ht
   cases he:(s.toList==t.toList) with
   | true=>
    have HM:Hid (memS s ss=true):=zXe hlt (by rw [HT.o,he]);go_wp2;go_ret;exact ⟨k,rfl,by rw [HM.o];simp,rfl⟩
   | false=>
    have HN:Hid (∀j,j<k+1→(s.toList==(ss.getD j ByteArray.empty).toList)=false):=fun j hj=>by
     by_cases e:j=k
     ·rw [e,HT.o,he]
     ·exact HK.o j (by omega)
    go_wp2
    go_round
    case rel=>exact ⟨k+1,by omega,by go_num,HN⟩
    case measure=>simp [intOf];omega
  ·have HM:Hid (memS s ss=false):=zPg (fun j hj=>HK.o j (by omega))
   go_wp2;go_ret;exact ⟨-1,rfl,by rw [HM.o];rfl,rfl⟩
theorem zGs (v:Value) (s:ByteArray) (ss:List ByteArray) (w:World) (hv:Strs w v ss) (hn:ss.length≤40000) :
  Calls Tryz.prog 88 #[v,.string s] w fun e w'=>e=.returned (.bool (memS s ss))∧w=w':=by
 have HV:=lH hv;clear hv
 go_enter Tryz.func88,Tryz.ntmps88
 go_wp2_with (go_at_call 139;refine (zUx _ _ _ _ HV.o hn).mono ?_;rintro e w' ⟨r,rfl,hr,rfl⟩)
 go_ret;exact ⟨rfl,rfl⟩
theorem zNm (v:Value) (s:ByteArray) (ss:List ByteArray) (w:World) (hv:Strs w v ss) (hn:ss.length≤40000) :
  Calls Tryz.prog 92 #[v,.string s] w fun e w'=>e=.returned (.bool (memS s ss))∧w=w':=by
 obtain ⟨a,cap,rfl,h1,h2,h3⟩:=hv.shape;have HV:=lH h3;clear h3 hv
 go_enter Tryz.func92,Tryz.ntmps92
 go_wp2
 go_loop [5] (fun i=>∃k:Nat,k≤ss.length∧i=.int .i64 k∧Hid (∀j,j<k→(s.toList==(ss.getD j ByteArray.empty).toList)=false)) (fun i=>ss.length - (intOf i).toNat)
 case atStart=>exact ⟨0,Nat.zero_le _,rfl,fun j hj=>by omega⟩
 case round=>
  obtain ⟨k,hk,rfl,HK⟩:=hrel
  by_cases hlt:k<ss.length
  ·obtain ⟨b,o,rfl,hb,hc⟩:=HV.o k hlt
   have hcell:=hc k hlt;clear hc;generalize ht:ss.getD k ByteArray.empty=t at *;have HT:=lH ht;clear ht
   cases he:(t.toList==s.toList) with
   | true=>
    have HM:Hid (memS s ss=true):=zXe hlt (by rw [HT.o,Bool.beq_comm];exact he);go_wp2;go_ret;exact ⟨zAb (by rw [HM.o]),rfl⟩
   | false=>
    have HN:Hid (∀j,j<k+1→(s.toList==(ss.getD j ByteArray.empty).toList)=false):=fun j hj=>by
     by_cases e:j=k
     ·rw [e,HT.o,Bool.beq_comm];exact he
     ·exact HK.o j (by omega)
    go_wp2
    go_round
    case rel=>exact ⟨k+1,by omega,by go_num,HN⟩
    case measure=>simp [intOf];omega
  ·have HM:Hid (memS s ss=false):=zPg (fun j hj=>HK.o j (by omega))
   go_wp2;go_ret;exact ⟨zAb (by rw [HM.o]),rfl⟩
end Go.Proofs.YtfkjfdbjhlmjcaaGreatDoor
namespace Go.Proofs.YtfkjfdbjhlmjcaaGreatDoor
inductive Ex where
 | mk (kind:Int) (name more:ByteArray) (num den:Int) (subs:List Ex)
def Ex.kind:Ex→Int|.mk k _ _ _ _ _=>k
def Ex.name:Ex→ByteArray|.mk _ n _ _ _ _=>n
def Ex.more:Ex→ByteArray|.mk _ _ m _ _ _=>m
def Ex.num:Ex→Int|.mk _ _ _ i _ _=>i
def Ex.den:Ex→Int|.mk _ _ _ _ d _=>d
def Ex.subs:Ex→List Ex|.mk _ _ _ _ _ s=>s
theorem Ex.ind {P:Ex→Prop} (h:∀x:Ex,(∀y∈x.subs,P y)→P x) (x:Ex):P x:=
 Ex.rec (motive_1:=P) (motive_2:=fun l=>∀y∈l,P y) (fun k n m i d s ih=>h (.mk k n m i d s) ih) (fun y hy=>by cases hy)
  (fun a l ha hl y hy=>by rcases List.mem_cons.1 hy with rfl|hy;exact ha;exact hl y hy) x
mutual
def nodesN:Ex→Nat
 | .mk _ _ _ _ _ s=>1+nodesL s
def nodesL:List Ex→Nat
 | []=>0
 | x::r=>nodesN x+nodesL r
end
mutual
def depthN:Ex→Nat
 | .mk _ _ _ _ _ s=>depthL s+1
def depthL:List Ex→Nat
 | []=>0
 | x::r=>max (depthN x) (depthL r)
end
theorem zBc (x:Ex):nodesN x=1+nodesL x.subs:=by cases x;rw [nodesN];rfl
theorem zCr (x:Ex):depthN x=depthL x.subs+1:=by cases x;rw [depthN];rfl
theorem zFq (a b:List Ex):nodesL (a++b)=nodesL a+nodesL b:=by
 induction a with
 | nil=>simp [nodesL]
 | cons x r ih=>rw [List.cons_append,nodesL,nodesL,ih];omega
theorem zEc (x:Ex):1≤nodesN x:=by rw [zBc];omega
theorem zCw {x:Ex} {l:List Ex} (h:x∈l):nodesN x≤nodesL l:=by
 induction l with
 | nil=>cases h
 | cons y r ih=>
  rw [nodesL]
  rcases List.mem_cons.1 h with rfl|h
  ·omega
  ·have:=ih h;omega
theorem zBq (l:List Ex):l.length≤nodesL l:=by
 induction l with
 | nil=>exact Nat.zero_le _
 | cons y r ih=>rw [nodesL,List.length_cons];have:=zEc y;omega
mutual
def preN:Ex→Nat→List (Nat×Ex)
 | .mk k n m i e s,d=>(d,.mk k n m i e s)::preL s (d+1)
def preL:List Ex→Nat→List (Nat×Ex)
 | [],_=>[]
 | x::r,d=>preN x d++preL r d
end
theorem zCc (x:Ex) (d:Nat):preN x d=(d,x)::preL x.subs (d+1):=by cases x;rw [preN];rfl
theorem zJq:∀(x:Ex) (d:Nat),(preN x d).length=nodesN x:=by
 intro x;refine Ex.ind (P:=fun x=>∀d,(preN x d).length=nodesN x) (fun x ih d=>?_) x;rw [zCc,zBc,List.length_cons]
 have:∀(l:List Ex),(∀y∈l,∀d,(preN y d).length=nodesN y)→∀d,(preL l d).length=nodesL l:=by
  intro l
  induction l with
  | nil=>intro _ d;rfl
  | cons y r ihr=>
   intro h d;rw [preL,nodesL,List.length_append,h y (List.mem_cons_self ..),ihr (fun z hz=>h z (List.mem_cons_of_mem _ hz))]
 rw [this _ ih];omega
def resL:List (List UInt8):=[[99,97,115,101],[99,104,97,110,99,101],[99,111,110,102,108,105,99,116],[101,108,115,101],[102,97,108,115,101],[102,108,97,107,121],[102,117,110],[105,102],[105,110],
 [108,101,116],[110,105,108],[111,102],[112,117,98],[116,101,115,116],[116,104,101,110],[116,114,117,101],[117,115,101]]
def resB (s:ByteArray):Bool:=resL.any fun l=>s.data.toList==l
def nmS (s:ByteArray):Bool:=wordS 24 s && !(resB s)
def isE (s:ByteArray):Bool:=s.data.toList==[]
def opB (s:ByteArray):Bool:=s.data.toList==[43] || s.data.toList==[45] || s.data.toList==[42] || s.data.toList==[61] || s.data.toList==[60]
def shapeK (k:Int):Option (Nat×Nat×Nat):=
  if k=1 then some (0,1,0) else if k=2 then some (0,1,0) else if k=3 then some (1,0,0) else if k=4 then some (2,0,0) else if k=5 then some (1,1,0)
  else if k=6 then some (1,0,1) else if k=7 then some (0,0,2) else if k=8 then some (1,0,2) else if k=9 then some (0,0,3) else if k=10 then some (1,0,2)
  else if k=11 then some (0,0,0) else if k=12 then some (0,0,2) else if k=13 then some (2,0,3) else if k=14 then some (0,2,0) else if k=15 then some (0,0,3) else none
def namesOk (x:Ex) (a:Nat):Bool:=
 (if x.kind=5 then isE x.name || labelS x.name else if x.kind=10 then opB x.name else decide (a<1) || nmS x.name) && (!(decide (a=2)) || nmS x.more)
def numsOk (x:Ex):Bool:=
 if x.kind=1 then decide (-999999999≤x.num) && decide (x.num≤999999999) else if x.kind=2 then x.num==0 || x.num==1
 else if x.kind=5 then decide (1≤x.num) && decide (x.num≤999999) else if x.kind=14 then decide (1≤x.den) && decide (x.den≤999999) && decide (0≤x.num) && decide (x.num≤x.den) else true
def argBad (x:Ex) (a b c:Nat):Bool:=(decide (a<1) && !(isE x.name)) || (decide (a<2) && !(isE x.more)) || (decide (b<1) && x.num != 0) || (decide (b<2) && x.den != 0) || x.subs.length != c
def nodeErr (x:Ex):Int:=
 match shapeK x.kind with
 | none=>9
 | some (a,b,c)=>if argBad x a b c then 1 else if !(namesOk x a) then 6 else if x.kind=13∧x.name.data.toList=x.more.data.toList then 7 else if numsOk x then 0 else 2
def firstE:List Ex→Int
  | []=>0
  | x::r=>if nodeErr x=0 then firstE r else nodeErr x
theorem zHw (a b:List Ex):firstE (a++b)=if firstE a=0 then firstE b else firstE a:=by
 induction a with
 | nil=>simp [firstE]
 | cons x r ih=>
  rw [List.cons_append,firstE,firstE,ih]
  by_cases h:nodeErr x=0
  ·simp [h]
  ·simp [h]
def exprErr (x:Ex):Int:=if 400<nodesN x∨40<depthN x then 4 else firstE ((preN x 1).map (·.2))
def memS' (s:ByteArray) (l:List ByteArray):Bool:=l.any fun t=>s.data.toList==t.data.toList
def boundAt (x:Ex) (i:Nat):List ByteArray:=if x.kind=6 then [x.name] else if x.kind=8∧i=1 then [x.name] else if x.kind=13∧i=2 then [x.name,x.more] else []
mutual
def freeN:Ex→List ByteArray→List ByteArray
 | .mk k n m _ _ s,bd=>if k=3 then (if memS' n bd then [] else [n]) else freeL s k n m 0 bd
def freeL:List Ex→Int→ByteArray→ByteArray→Nat→List ByteArray→List ByteArray
 | [],_,_,_,_,_=>[]
 | x::r,k,n,m,j,bd=>freeN x (bd++boundAt (.mk k n m 0 0 []) j)++freeL r k n m (j+1) bd
end
end Go.Proofs.YtfkjfdbjhlmjcaaGreatDoor
namespace Go.Proofs.YtfkjfdbjhlmjcaaGreatDoor
open Go.RowKit
def inI (n:Int):Prop:=-9223372036854775808≤n∧n≤9223372036854775807
inductive SmX (B:Nat):Ex→Prop
  | mk {k:Int} {n m:ByteArray} {i d:Int} {s:List Ex}:n.size≤B→m.size≤B→inI k→inI i→inI d→(∀y∈s,SmX B y)→SmX B (.mk k n m i d s)
theorem SmX.name {B:Nat} {x:Ex} (h:SmX B x):x.name.size≤B:=by cases h;assumption
theorem SmX.more {B:Nat} {x:Ex} (h:SmX B x):x.more.size≤B:=by cases h;assumption
theorem SmX.subs {B:Nat} {x:Ex} (h:SmX B x):∀y∈x.subs,SmX B y:=by cases h;assumption
theorem SmX.mono {B C:Nat} (hBC:B≤C) {x:Ex} (h:SmX B x):SmX C x:=by
 induction h with
 | mk h1 h2 h3 h4 h5 _ ih=>exact .mk (by omega) (by omega) h3 h4 h5 ih
mutual
def exprT:Ex→List Tree
 | .mk k n m i d s=>[.leaf (.int .i64 k),strT n,strT m,.leaf (.int .i64 i),.leaf (.int .i64 d),.row 6 s.length (exprsT s)]
def exprsT:List Ex→List Tree
 | []=>[]
 | x::r=>exprT x++exprsT r
end
theorem zXf (s:List Ex):exprsT s=s.flatMap exprT:=by
 induction s with
 | nil=>rfl
 | cons x r ih=>rw [exprsT,ih];rfl
def subsT (s:List Ex):Tree:=rowT 6 exprT s
theorem zGt (x:Ex):exprT x=[.leaf (.int .i64 x.kind),strT x.name,strT x.more,.leaf (.int .i64 x.num),.leaf (.int .i64 x.den),subsT x.subs]:=by
 cases x;rw [exprT,zXf];rfl
theorem zEd (x:Ex):(exprT x).length=6:=by rw [zGt];rfl
def exV (x:Ex) (a:Option Addr) (c:Nat):Value:=.agg #[.int .i64 x.kind,.string x.name,.string x.more,.int .i64 x.num,.int .i64 x.den,.slice a x.subs.length c]
theorem zFr {w:World} {X:List Nat} {l:List Ex} {v:Value} (h:Reads w X (subsT l) v):∃(a:Option Addr) (cap:Nat),v=.slice a l.length cap∧l.length≤cap∧cap≤9223372036854775807:=h.val
theorem zHx {w:World} {X:List Nat} {x:Ex} {cs:List Value} (h:ReadsL w X (exprT x) cs) :
  ∃(a:Option Addr) (c:Nat),cs=[.int .i64 x.kind,.string x.name,.string x.more,.int .i64 x.num,.int .i64 x.den,.slice a x.subs.length c]∧x.subs.length≤c∧c≤9223372036854775807∧Reads w X (subsT x.subs) (.slice a x.subs.length c):=by
 rw [zGt] at h;obtain ⟨x0,r0,rfl,h0,h⟩:=h.inv;obtain ⟨x1,r1,rfl,h1,h⟩:=h.inv;obtain ⟨x2,r2,rfl,h2,h⟩:=h.inv;obtain ⟨x3,r3,rfl,h3,h⟩:=h.inv;obtain ⟨x4,r4,rfl,h4,h⟩:=h.inv;obtain ⟨x5,r5,rfl,h5,h⟩:=h.inv;rw [ReadsL] at h;subst h;obtain ⟨a,c,rfl,hc1,hc2⟩:=zFr h5;rw [Reads.leafv h0,Reads.leafv h1,Reads.leafv h2,Reads.leafv h3,Reads.leafv h4];exact ⟨a,c,rfl,hc1,hc2,h5⟩
theorem zFs {w:World} {X:List Nat} {x:Ex} {a:Option Addr} {c:Nat} (h:Reads w X (subsT x.subs) (.slice a x.subs.length c)) :
  ReadsL w X (exprT x) [.int .i64 x.kind,.string x.name,.string x.more,.int .i64 x.num,.int .i64 x.den,.slice a x.subs.length c]:=by
 rw [zGt];exact ReadsL.cons (Reads.leaf' _ _ _) (ReadsL.cons (Reads.leaf' _ _ _) (ReadsL.cons (Reads.leaf' _ _ _) (ReadsL.cons (Reads.leaf' _ _ _) (ReadsL.cons (Reads.leaf' _ _ _) (ReadsL.cons h (ReadsL.nil _ _))))))
theorem zAx {w:World} {X:List Nat} {l:List Ex} {a:Option Addr} {cap:Nat} (h:Reads w X (subsT l) (.slice a l.length cap)) {i:Nat} {x:Ex} (hi:l[i]?=some x) :
    ∃(b o:Nat) (sa:Option Addr) (cs:Nat),a=some ⟨b,o,none⟩∧b<w.heap.size∧w.cell? ⟨b,o+i * 6,none⟩=some (.int .i64 x.kind)∧w.cell? ⟨b,o+i * 6+1,none⟩=some (.string x.name)∧w.cell? ⟨b,o+i * 6+2,none⟩=some (.string x.more) ∧
      w.cell? ⟨b,o+i * 6+3,none⟩=some (.int .i64 x.num)∧w.cell? ⟨b,o+i * 6+4,none⟩=some (.int .i64 x.den)∧w.cell? ⟨b,o+i * 6+5,none⟩=some (.slice sa x.subs.length cs)∧x.subs.length≤cs∧cs≤9223372036854775807∧Hid (Reads w X (subsT x.subs) (.slice sa x.subs.length cs)):=by
  obtain ⟨b,o,rfl,hb,hc⟩:=Reads.elem (size:=6) (f:=exprT) zEd h hi
  rw [zGt] at hc
  obtain ⟨u0,e0,d0⟩:=hc 0 _ rfl
  obtain ⟨u1,e1,d1⟩:=hc 1 _ rfl
  obtain ⟨u2,e2,d2⟩:=hc 2 _ rfl
  obtain ⟨u3,e3,d3⟩:=hc 3 _ rfl
  obtain ⟨u4,e4,d4⟩:=hc 4 _ rfl
  obtain ⟨u5,e5,d5⟩:=hc 5 _ rfl
  rw [Reads.leafv d0] at e0
  rw [Reads.leafv d1] at e1
  rw [Reads.leafv d2] at e2
  rw [Reads.leafv d3] at e3
  rw [Reads.leafv d4] at e4
  obtain ⟨sa,cs,rfl,h1,h2⟩:=zFr d5
  exact ⟨b,o,sa,cs,rfl,hb,e0,e1,e2,e3,e4,e5,h1,h2,d5⟩
structure ODecl where
 id:Int
 kind:Int
 pub:Bool
 names:List ByteArray
 doubt:Bool
 body:Ex
def declT (d:ODecl):List Tree:=[.leaf (.int .i64 d.id),.leaf (.int .i64 d.kind),.leaf (.bool d.pub),strsT d.names,.leaf (.bool d.doubt)]++exprT d.body
def declsT (l:List ODecl):Tree:=rowT 11 declT l
theorem zDa (d:ODecl):(declT d).length=11:=by rw [declT,List.length_append,zEd];rfl
def declV (d:ODecl) (an:Option Addr) (cn:Nat) (sa:Option Addr) (cs:Nat):Value:=
  .agg #[.int .i64 d.id,.int .i64 d.kind,.bool d.pub,.slice an d.names.length cn,.bool d.doubt,.int .i64 d.body.kind,.string d.body.name,.string d.body.more,.int .i64 d.body.num,.int .i64 d.body.den,.slice sa d.body.subs.length cs]
def declL (d:ODecl) (an:Option Addr) (cn:Nat) (sa:Option Addr) (cs:Nat):List Value:=
 [.int .i64 d.id,.int .i64 d.kind,.bool d.pub,.slice an d.names.length cn,.bool d.doubt,.int .i64 d.body.kind,.string d.body.name,.string d.body.more,.int .i64 d.body.num,.int .i64 d.body.den,.slice sa d.body.subs.length cs]
theorem zNn {w:World} {X:List Nat} {l:List ByteArray} {v:Value} (h:Reads w X (strsT l) v):∃(a:Option Addr) (cap:Nat),v=.slice a l.length cap∧l.length≤cap∧cap≤9223372036854775807:=h.val
theorem zLy {w:World} {X:List Nat} {d:ODecl} {cs:List Value} (h:ReadsL w X (declT d) cs) :
  ∃(an:Option Addr) (cn:Nat) (sa:Option Addr) (c:Nat),cs=declL d an cn sa c∧d.names.length≤cn∧cn≤9223372036854775807∧Reads w X (strsT d.names) (.slice an d.names.length cn) ∧
   d.body.subs.length≤c∧c≤9223372036854775807∧Reads w X (subsT d.body.subs) (.slice sa d.body.subs.length c):=by
 obtain ⟨x0,r0,rfl,h0,g0⟩:=ReadsL.inv (show ReadsL w X (.leaf (.int .i64 d.id)::.leaf (.int .i64 d.kind)::.leaf (.bool d.pub)::strsT d.names::.leaf (.bool d.doubt)::exprT d.body) cs from h);obtain ⟨x1,r1,rfl,h1,g1⟩:=g0.inv;obtain ⟨x2,r2,rfl,h2,g2⟩:=g1.inv;obtain ⟨x3,r3,rfl,h3,g3⟩:=g2.inv;obtain ⟨x4,r4,rfl,h4,g4⟩:=g3.inv;obtain ⟨an,cn,rfl,hn1,hn2⟩:=zNn h3;obtain ⟨sa,c,rfl,hc1,hc2,h5⟩:=zHx g4;rw [Reads.leafv h0,Reads.leafv h1,Reads.leafv h2,Reads.leafv h4];exact ⟨an,cn,sa,c,rfl,hn1,hn2,h3,hc1,hc2,h5⟩
theorem zBr {w:World} {X:List Nat} {d:ODecl} {an:Option Addr} {cn:Nat} {sa:Option Addr} {c:Nat} (h1:Reads w X (strsT d.names) (.slice an d.names.length cn)) (h2:Reads w X (subsT d.body.subs) (.slice sa d.body.subs.length c)) :
  ReadsL w X (declT d) (declL d an cn sa c):=
 ReadsL.cons (Reads.leaf' _ _ _) (ReadsL.cons (Reads.leaf' _ _ _) (ReadsL.cons (Reads.leaf' _ _ _) (ReadsL.cons h1 (ReadsL.cons (Reads.leaf' _ _ _) (zFs h2)))))
theorem zCi {w:World} {X:List Nat} {l:List ODecl} {v:Value} (h:Reads w X (declsT l) v):∃(a:Option Addr) (cap:Nat),v=.slice a l.length cap∧l.length≤cap∧cap≤9223372036854775807:=h.val
theorem zAv {w:World} {X:List Nat} {l:List ODecl} {a:Option Addr} {cap:Nat} (h:Reads w X (declsT l) (.slice a l.length cap)) {i:Nat} {d:ODecl} (hi:l[i]?=some d) :
    ∃(b o:Nat) (an:Option Addr) (cn:Nat) (sa:Option Addr) (c:Nat),a=some ⟨b,o,none⟩∧b<w.heap.size∧(∀(j:Nat) (u:Value),(declL d an cn sa c)[j]?=some u→w.cell? ⟨b,o+i * 11+j,none⟩=some u) ∧
      d.names.length≤cn∧cn≤9223372036854775807∧Hid (Reads w X (strsT d.names) (.slice an d.names.length cn))∧d.body.subs.length≤c∧c≤9223372036854775807∧Hid (Reads w X (subsT d.body.subs) (.slice sa d.body.subs.length c)):=by
  obtain ⟨b,o,rfl,hb,hc⟩:=Reads.elem (size:=11) (f:=declT) zDa h hi
  have key:∀(j:Nat) (t:Tree),(declT d)[j]?=some t→∃u,w.cell? ⟨b,o+i * 11+j,none⟩=some u∧Reads w X t u:=hc
  rw [declT,zGt] at key
  obtain ⟨u3,e3,d3⟩:=key 3 _ rfl
  obtain ⟨u10,e10,d10⟩:=key 10 _ rfl
  obtain ⟨an,cn,rfl,hn1,hn2⟩:=zNn d3
  obtain ⟨sa,c,rfl,hc1,hc2⟩:=zFr d10
  refine ⟨b,o,an,cn,sa,c,rfl,hb,fun j u hj=>?_,hn1,hn2,d3,hc1,hc2,d10⟩
  have lf:∀(j:Nat) (v:Value),w.cell? ⟨b,o+i * 11+j,none⟩=some v→v=u→w.cell? ⟨b,o+i * 11+j,none⟩=some u:=fun j v h e=>by rw [h,e]
  match j,hj with
  | 0,hj=>obtain ⟨v,e,r⟩:=key 0 _ rfl;exact lf 0 v e ((Reads.leafv r).trans (Option.some.inj hj))
  | 1,hj=>obtain ⟨v,e,r⟩:=key 1 _ rfl;exact lf 1 v e ((Reads.leafv r).trans (Option.some.inj hj))
  | 2,hj=>obtain ⟨v,e,r⟩:=key 2 _ rfl;exact lf 2 v e ((Reads.leafv r).trans (Option.some.inj hj))
  | 3,hj=>exact lf 3 _ e3 (Option.some.inj hj)
  | 4,hj=>obtain ⟨v,e,r⟩:=key 4 _ rfl;exact lf 4 v e ((Reads.leafv r).trans (Option.some.inj hj))
  | 5,hj=>obtain ⟨v,e,r⟩:=key 5 _ rfl;exact lf 5 v e ((Reads.leafv r).trans (Option.some.inj hj))
  | 6,hj=>obtain ⟨v,e,r⟩:=key 6 _ rfl;exact lf 6 v e ((Reads.leafv r).trans (Option.some.inj hj))
  | 7,hj=>obtain ⟨v,e,r⟩:=key 7 _ rfl;exact lf 7 v e ((Reads.leafv r).trans (Option.some.inj hj))
  | 8,hj=>obtain ⟨v,e,r⟩:=key 8 _ rfl;exact lf 8 v e ((Reads.leafv r).trans (Option.some.inj hj))
  | 9,hj=>obtain ⟨v,e,r⟩:=key 9 _ rfl;exact lf 9 v e ((Reads.leafv r).trans (Option.some.inj hj))
  | 10,hj=>exact lf 10 _ e10 (Option.some.inj hj)
  | (j+11),hj=>exact absurd hj (by simp [declL])
structure OMod where
 label:ByteArray
 uses:List ByteArray
 decls:List ODecl
abbrev dA (d:ODecl) (a:Option Addr) (c:Nat) (s:Option Addr) (k:Nat):Array Value:=#[.int .i64 d.id,.int .i64 d.kind,.bool d.pub,.slice a d.names.length c,.bool d.doubt,.int .i64 d.body.kind,.string d.body.name,.string d.body.more,.int .i64 d.body.num,.int .i64 d.body.den,.slice s d.body.subs.length k]
abbrev xA (x:Ex) (a:Option Addr) (c:Nat):Array Value:=#[.int .i64 x.kind,.string x.name,.string x.more,.int .i64 x.num,.int .i64 x.den,.slice a x.subs.length c]
abbrev mA (m:OMod) (a:Option Addr) (c:Nat) (s:Option Addr) (k:Nat):Array Value:=#[.string m.label,.slice a m.uses.length c,.slice s m.decls.length k]
abbrev dZ:Array Value:=#[.int .i64 0,.int .i64 0,.bool false,.slice none 0 0,.bool false,.int .i64 0,.string ⟨#[]⟩,.string ⟨#[]⟩,.int .i64 0,.int .i64 0,.slice none 0 0]
abbrev xZ:Array Value:=#[.int .i64 0,.string ⟨#[]⟩,.string ⟨#[]⟩,.int .i64 0,.int .i64 0,.slice none 0 0]
abbrev mZ:Array Value:=#[.string ⟨#[]⟩,.slice none 0 0,.slice none 0 0]
structure OEdit where
 kind:Int
 pack:ByteArray
 text:ByteArray
 old:List ODecl
 fresh:List ODecl
def modT (m:OMod):List Tree:=[strT m.label,strsT m.uses,declsT m.decls]
def modsT (l:List OMod):Tree:=rowT 3 modT l
def editT (e:OEdit):List Tree:=[.leaf (.int .i64 e.kind),strT e.pack,strT e.text,declsT e.old,declsT e.fresh]
def editsT (l:List OEdit):Tree:=rowT 5 editT l
theorem zJc {w:World} {X:List Nat} {l:List OMod} {v:Value} (h:Reads w X (modsT l) v):∃(a:Option Addr) (cap:Nat),v=.slice a l.length cap∧l.length≤cap∧cap≤9223372036854775807:=h.val
theorem zXg {w:World} {X:List Nat} {l:List OEdit} {v:Value} (h:Reads w X (editsT l) v):∃(a:Option Addr) (cap:Nat),v=.slice a l.length cap∧l.length≤cap∧cap≤9223372036854775807:=h.val
theorem zLz {w:World} {X:List Nat} {e:OEdit} {cs:List Value} (h:ReadsL w X (editT e) cs) :
  ∃(ao:Option Addr) (co:Nat) (an:Option Addr) (cn:Nat),cs=[.int .i64 e.kind,.string e.pack,.string e.text,.slice ao e.old.length co,.slice an e.fresh.length cn]∧e.old.length≤co∧co≤9223372036854775807∧Reads w X (declsT e.old) (.slice ao e.old.length co) ∧
   e.fresh.length≤cn∧cn≤9223372036854775807∧Reads w X (declsT e.fresh) (.slice an e.fresh.length cn):=by
 obtain ⟨x0,r0,rfl,h0,h⟩:=ReadsL.inv (show ReadsL w X [.leaf (.int .i64 e.kind),strT e.pack,strT e.text,declsT e.old,declsT e.fresh] cs from h);obtain ⟨x1,r1,rfl,h1,h⟩:=h.inv;obtain ⟨x2,r2,rfl,h2,h⟩:=h.inv;obtain ⟨x3,r3,rfl,h3,h⟩:=h.inv;obtain ⟨x4,r4,rfl,h4,h⟩:=h.inv;rw [ReadsL] at h;subst h;obtain ⟨ao,co,rfl,ho1,ho2⟩:=zCi h3;obtain ⟨an,cn,rfl,hn1,hn2⟩:=zCi h4;rw [Reads.leafv h0,Reads.leafv h1,Reads.leafv h2];exact ⟨ao,co,an,cn,rfl,ho1,ho2,h3,hn1,hn2,h4⟩
theorem zUy {w:World} {X:List Nat} {l:List OEdit} {a:Option Addr} {cap:Nat} (h:Reads w X (editsT l) (.slice a l.length cap)) {i:Nat} {e:OEdit} (hi:l[i]?=some e) :
    ∃(b o:Nat) (ao:Option Addr) (co:Nat) (an:Option Addr) (cn:Nat),a=some ⟨b,o,none⟩∧b<w.heap.size∧w.cell? ⟨b,o+i * 5,none⟩=some (.int .i64 e.kind)∧w.cell? ⟨b,o+i * 5+1,none⟩=some (.string e.pack)∧w.cell? ⟨b,o+i * 5+2,none⟩=some (.string e.text) ∧
      w.cell? ⟨b,o+i * 5+3,none⟩=some (.slice ao e.old.length co)∧w.cell? ⟨b,o+i * 5+4,none⟩=some (.slice an e.fresh.length cn)∧e.old.length≤co∧co≤9223372036854775807∧Hid (Reads w X (declsT e.old) (.slice ao e.old.length co)) ∧
      e.fresh.length≤cn∧cn≤9223372036854775807∧Hid (Reads w X (declsT e.fresh) (.slice an e.fresh.length cn)):=by
  obtain ⟨b,o,rfl,hb,hc⟩:=Reads.elem (size:=5) (f:=editT) (fun _=>rfl) h hi
  obtain ⟨u0,e0,d0⟩:=hc 0 _ rfl
  obtain ⟨u1,e1,d1⟩:=hc 1 _ rfl
  obtain ⟨u2,e2,d2⟩:=hc 2 _ rfl
  obtain ⟨u3,e3,d3⟩:=hc 3 _ rfl
  obtain ⟨u4,e4,d4⟩:=hc 4 _ rfl
  rw [Reads.leafv d0] at e0
  rw [Reads.leafv d1] at e1
  rw [Reads.leafv d2] at e2
  obtain ⟨ao,co,rfl,ho1,ho2⟩:=zCi d3
  obtain ⟨an,cn,rfl,hn1,hn2⟩:=zCi d4
  exact ⟨b,o,ao,co,an,cn,rfl,hb,e0,e1,e2,e3,e4,ho1,ho2,d3,hn1,hn2,d4⟩
end Go.Proofs.YtfkjfdbjhlmjcaaGreatDoor
