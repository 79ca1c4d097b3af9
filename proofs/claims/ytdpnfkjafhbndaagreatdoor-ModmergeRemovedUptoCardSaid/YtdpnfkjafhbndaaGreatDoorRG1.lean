/- Small lemmas; rows of cells, data in memory, maps of strings, slices that the call owns, boxes. No program in sight, but for the seat's Prog. -/
import Derived.BigQuiet
import Derived.Deep.QuietTactic
import Derived.Lib.Hide
import Derived.Lib.IndexBytes
import Derived.LoopTactic
import Derived.Maps.AppendAt
import Derived.Maps.OwnSet
import Derived.OpenShut
import Derived.OwnWalk
import Derived.RangeFuncNested
import Derived.WalkKit
import Derived.WalkLawsBesides
import Derived.WalkSpells
import Derived.Test.YtdpnfkjafhbndaaGreatDoorProg
namespace Go.Proofs.YtdpnfkjafhbndaaGreatDoor
open Go.RowKit
abbrev Bw (w w':World):Prop:=Below w.heap.size w w'
theorem gA {α:Type} (xs:List α) (i:Nat) (h:i < xs.toArray.size):xs.toArray[i] = xs[i]'(by simpa using h):=List.getElem_toArray ..
theorem gB {α:Type} (a:α) (ys:List α) (i:Nat) (h:i + 1 < (a :: ys).length):(a :: ys)[i + 1] = ys[i]'(Nat.lt_of_succ_lt_succ h):=List.getElem_cons_succ ..
theorem gC {α:Type} (a:α) (ys:List α) (h:0 < (a :: ys).length):(a :: ys)[0] = a:=rfl
theorem gD {α:Type} (ys:List α) (i:Nat) (a:α):ys.toArray.setIfInBounds i a = (ys.set i a).toArray:=List.setIfInBounds_toArray ..
theorem gE {α:Type} (x:α) (xs:List α) (a:α):(x :: xs).set 0 a = a :: xs:=rfl
theorem gF {α:Type} (x:α) (xs:List α) (n:Nat) (a:α):(x :: xs).set (n + 1) a = x :: xs.set n a:=rfl
theorem lH {p:Prop} (h:p):Hid p:=h
theorem inC {n:Nat} {X:List Nat}:∀ k,k∈[n]→k∈n :: X:=fun _ hk => by rw [List.mem_singleton.1 hk];exact List.mem_cons_self ..
theorem inT {n:Nat} {X:List Nat}:∀ k,k∈X→k∈n :: X:=fun _ hk => List.mem_cons_of_mem _ hk
theorem ret_int {k:IntKind} {a b:Int} (h:a = b):Ending.returned (.int k a) = .returned (.int k b):=by rw [h]
theorem ret_bool {a b:Bool} (h:a = b):Ending.returned (.bool a) = .returned (.bool b):=by rw [h]
theorem sz (s:ByteArray):s.data.toList.length = s.size:=by simp
theorem getD_at (s:ByteArray) (i:Nat) (h:i < s.size):s.data.toList.getD i 0 = s[i]:=by
 rw [List.getD_eq_getElem?_getD,List.getElem?_eq_getElem (by simpa using h)];rfl
theorem ex_data (s:ByteArray) (a b:Nat):(s.extract a b).data.toList = (s.data.toList.drop a).take (b - a):=Lib.extract_data s a b
theorem ex_end (s:ByteArray) (a:Nat):(s.extract a s.size).data.toList = s.data.toList.drop a:=Lib.extract_to_end s a
theorem ex_take (s:ByteArray) (b:Nat):(s.extract 0 b).data.toList = s.data.toList.take b:=by rw [ex_data];simp
theorem tl (s:ByteArray):s.toList = s.data.toList:=ByteArray.toList_eq s
theorem qtrans {a b c:World} (h:Bw a b) (k:Bw b c):Bw a c:=h.trans (k.mono h.size)
theorem qalloc (w:World) (o:Obj):Bw w (w.alloc o):=(Below.refl _ _).alloc (Nat.le_refl _) o
theorem cell_far (w:World) (a b:Addr) (v:Value) (h:b.block≠a.block):(w.setCell a v).cell? b = w.cell? b:=World.cell?_of_block (Below.heap_setCell w a v b.block h)
theorem frozen_far (w:World) (a b:Addr) (v:Value):(w.setCell a v).frozen? b = w.frozen? b:=by rw [World.frozen?_setCell]
theorem qrefl (w:World):Bw w w:=Below.refl _ _
end Go.Proofs.YtdpnfkjafhbndaaGreatDoor
namespace Go.Proofs.YtdpnfkjafhbndaaGreatDoor
def isLet (c:Int):Bool:=decide (97≤c) && decide (c≤122)
def isDig (c:Int):Bool:=decide (48≤c) && decide (c≤57)
def okAt (i:Nat) (c:UInt8):Bool:=isLet c.toNat || (i != 0 && isDig c.toNat)
def wordB (l:List UInt8):Bool:=(List.range l.length).all fun i => okAt i (l.getD i 0)
def wordN (n:Nat) (l:List UInt8):Bool:=decide (1≤l.length) && decide (l.length≤n) && wordB l
theorem wordB_iff (l:List UInt8):wordB l = true↔∀ i,i < l.length→okAt i (l.getD i 0) = true:=by
 simp [wordB]
theorem wordB_false {l:List UInt8} {i:Nat} (hi:i < l.length) (h:okAt i (l.getD i 0) = false):wordB l = false:=by
 cases hw:wordB l with
 | false => rfl
 | true => have:=(wordB_iff l).1 hw i hi;rw [h] at this;cases this
def split:List UInt8→List (List UInt8)
  | [] => [[]]
  | c :: r => if c = 47 then [] :: split r else match split r with
    | [] => [[c]]
    | p :: ps => (c :: p) :: ps
def slashAt (l:List UInt8):Nat:=l.findIdx (· == 47)
theorem slashAt_le (l:List UInt8):slashAt l≤l.length:=List.findIdx_le_length
theorem split_none {l:List UInt8} (h:slashAt l = l.length):split l = [l]:=by
 induction l with
 | nil => rfl
 | cons c r ih =>
  unfold slashAt at h ih;rw [List.findIdx_cons] at h
  by_cases hc:c = 47
  ·simp [hc] at h
  ·have hb:(c == 47) = false:=by simp [hc]
   rw [hb] at h;rw [split,if_neg hc,ih (by simpa using h)]
theorem split_some {l:List UInt8} (h:slashAt l < l.length):split l = l.take (slashAt l) :: split (l.drop (slashAt l + 1)):=by
 induction l with
 | nil => simp at h
 | cons c r ih =>
  unfold slashAt at h ih ⊢;rw [List.findIdx_cons] at h ⊢
  by_cases hc:c = 47
  ·simp [hc,split]
  ·have hb:(c == 47) = false:=by simp [hc]
   rw [hb] at h ⊢;rw [split,if_neg hc,ih (by simpa using h)];simp
theorem slashAt_at {l:List UInt8} {k:Nat} (hk:k≤slashAt l) (hl:k < l.length) (h:l.getD k 0 = 47):slashAt l = k:=by
 refine Nat.le_antisymm ?_ hk;unfold slashAt;refine Nat.le_of_not_lt fun hlt => ?_;have:=List.not_of_lt_findIdx hlt;rw [List.getD_eq_getElem?_getD,List.getElem?_eq_getElem hl] at h;simp at h this
 exact this h
theorem slashAt_next {l:List UInt8} {k:Nat} (hk:k≤slashAt l) (hl:k < l.length) (h:l.getD k 0≠47):k + 1≤slashAt l:=by
 refine Nat.lt_of_le_of_ne hk fun e => h ?_;have hlt:List.findIdx (· == 47) l < l.length:=by unfold slashAt at e;omega
 have:=List.findIdx_getElem (w:=hlt);rw [List.getD_eq_getElem?_getD,List.getElem?_eq_getElem hl];unfold slashAt at e;simp at this ⊢
 simp only [e]
 exact this
def labelB (l:List UInt8):Bool:=decide (l.length≤90) && (split l).all (wordN 20)
theorem wordN_short {n:Nat} {l:List UInt8} (h:l.length < 1):wordN n l = false:=by
 simp [wordN];omega
theorem wordN_long {n:Nat} {l:List UInt8} (h:n < l.length):wordN n l = false:=by
 simp [wordN];omega
theorem wordN_bad {n i:Nat} {l:List UInt8} (hi:i < l.length) (h:okAt i (l.getD i 0) = false):wordN n l = false:=by
 rw [wordN,wordB_false hi h];simp
theorem wordN_good {n:Nat} {l:List UInt8} (h1:1≤l.length) (h2:l.length≤n) (h:∀ i,i < l.length→okAt i (l.getD i 0) = true):wordN n l = true:=by
 simp [wordN,h1,h2,(wordB_iff l).2 h]
theorem wordN_20_24 (l:List UInt8):wordN 20 l = (decide (l.length≤20) && wordN 24 l):=by
 rw [Bool.eq_iff_iff];simp only [wordN,Bool.and_eq_true,decide_eq_true_eq]
 constructor
 ·rintro ⟨⟨a,b⟩,c⟩;exact ⟨b,⟨a,by omega⟩,c⟩
 ·rintro ⟨a,⟨b,_⟩,c⟩;exact ⟨⟨b,a⟩,c⟩
theorem labelB_long {l:List UInt8} (h:90 < l.length):labelB l = false:=by
 simp [labelB];omega
def lastSlFrom (l:List UInt8):Nat→Int
  | 0 => -1
  | n + 1 => if l.getD n 0 = 47 then n else lastSlFrom l n
/- The same over Go's strings. -/
def lastSlS (s:ByteArray):Int:=lastSlFrom s.data.toList s.size
def wordS (n:Nat) (s:ByteArray):Bool:=wordN n s.data.toList
def slashS (s:ByteArray):Nat:=slashAt s.data.toList
def labelS (s:ByteArray):Bool:=labelB s.data.toList
end Go.Proofs.YtdpnfkjafhbndaaGreatDoor
namespace Go.Proofs.YtdpnfkjafhbndaaGreatDoor
end Go.Proofs.YtdpnfkjafhbndaaGreatDoor
namespace Go.Proofs.YtdpnfkjafhbndaaGreatDoor
open Go.RowKit
def IsRow (w:World) (size:Nat) (v:Value) (n:Nat) (xs:List Value):Prop:=
  xs.length = n * size∧∃ (a:Option Addr) (cap:Nat),v = .slice a n cap∧n≤cap∧cap≤maxLen ∧
    (0 < n→∃ b o:Nat,a = some ⟨b,o,none⟩∧b < w.heap.size∧∀ j u,xs[j]? = some u→w.cell? ⟨b,o + j,none⟩ = some u)
def Strs (w:World) (v:Value) (ss:List ByteArray):Prop:=IsRow w 1 v ss.length (ss.map .string)
structure Mod (X:List Nat) (w w':World):Prop where
  os:w'.os = w.os
  tape:w'.tape = w.tape
  output:w'.output = w.output
  size:w.heap.size≤w'.heap.size
  block:∀ k,k < w.heap.size→k ∉ X→w'.heap[k]? = w.heap[k]?
theorem Mod.refl (X:List Nat) (w:World):Mod X w w:=⟨rfl,rfl,rfl,Nat.le_refl _,fun _ _ _ => rfl⟩
theorem Mod.trans {X:List Nat} {a b c:World} (h:Mod X a b) (k:Mod X b c):Mod X a c:=
 ⟨k.os.trans h.os,k.tape.trans h.tape,k.output.trans h.output,Nat.le_trans h.size k.size,fun i hi hx => (k.block i (Nat.lt_of_lt_of_le hi h.size) hx).trans (h.block i hi hx)⟩
theorem Mod.of {X:List Nat} {w w':World} (h:Bw w w'):Mod X w w':=⟨h.os,h.tape,h.output,h.size,fun k hk _ => h.block k hk⟩
theorem Mod.below {w w':World} (h:Mod [] w w'):Bw w w':=⟨h.os,h.tape,h.output,h.size,fun k hk => h.block k hk (by simp)⟩
theorem Mod.mono {X Y:List Nat} {w w':World} (h:Mod X w w') (hs:∀ k,k∈X→k∈Y):Mod Y w w':=⟨h.os,h.tape,h.output,h.size,fun k hk hy => h.block k hk (fun hx => hy (hs k hx))⟩
theorem Mod.upto {X:List Nat} {B:Nat} {w w':World} (h:Mod X w w') (hB:B≤w.heap.size) (hX:∀ k,k∈X→B≤k):Below B w w':=
 ⟨h.os,h.tape,h.output,h.size,fun k hk => h.block k (by omega) (fun hx => by have:=hX k hx;omega)⟩
theorem Mod.setCell {X:List Nat} {a w:World} (h:Mod X a w) {p:Addr} (hp:p.block∈X) (u:Value):Mod X a (w.setCell p u):=
 h.trans ⟨rfl,rfl,rfl,by simp [World.setCell],fun k _ hx => Below.heap_setCell _ _ _ _ (fun e => hx (e ▸ hp))⟩
theorem Mod.alloc {X:List Nat} {a w:World} (h:Mod X a w) (o:Obj):Mod X a (w.alloc o):=h.trans (Mod.of (qalloc w o))
theorem Mod.drew {X:List Nat} {a w:World} (h:Mod X a w):Mod X a w.drew:=⟨h.os,h.tape,h.output,h.size,h.block⟩
theorem Mod.cell {X:List Nat} {w w':World} (h:Mod X w w') {b o:Nat} {v:Value} (hc:w.cell? ⟨b,o,none⟩ = some v) (hb:b ∉ X):w'.cell? ⟨b,o,none⟩ = some v:=by
 obtain ⟨ob,ho,_⟩:=cells_of_cell hc;exact (World.cell?_of_block (w:=w) (h.block b (Array.getElem?_eq_some_iff.1 ho).1 hb)).trans hc
theorem Mod.heap {X:List Nat} {w w':World} (h:Mod X w w') {b:Nat} {ob:Obj} (hc:w.heap[b]? = some ob) (hb:b ∉ X):w'.heap[b]? = some ob:=
 (h.block b (Array.getElem?_eq_some_iff.1 hc).1 hb).trans hc
theorem Mod.trans' {X:List Nat} {a b c:World} (h:Mod X a b) {row:Option Nat} (g:b.grownBy c row) (hr:∀ k,row = some k→a.heap.size≤k):Mod X a c:=
 ⟨g.os.trans h.os,g.tape.trans h.tape,g.output.trans h.output,Nat.le_trans h.size g.size,fun i hi hx => (g.block i (Nat.lt_of_lt_of_le hi h.size) (fun e => by have:=hr i e.symm;omega)).trans (h.block i hi hx)⟩
theorem IsRow.mod {w w':World} {size:Nat} {v:Value} {n:Nat} {xs:List Value} {X:List Nat} (h:IsRow w size v n xs) (m:Mod X w w') (hx:∀ b,v.ownBlock = some b→b ∉ X):IsRow w' size v n xs:=by
 obtain ⟨hl,a,cap,rfl,h1,h2,h3⟩:=h;refine ⟨hl,a,cap,rfl,h1,h2,fun hn => ?_⟩;obtain ⟨b,o,rfl,hb,hc⟩:=h3 hn;exact ⟨b,o,rfl,Nat.lt_of_lt_of_le hb m.size,fun j u hj => m.cell (hc j u hj) (hx b rfl)⟩
theorem IsRow.below {w w':World} {size:Nat} {v:Value} {n:Nat} {xs:List Value} (h:IsRow w size v n xs) (m:Bw w w'):IsRow w' size v n xs:=
 h.mod (Mod.of (X:=[]) m) (by simp)
theorem Strs.below {w w':World} {v:Value} {ss:List ByteArray} (h:Strs w v ss) (m:Bw w w'):Strs w' v ss:=IsRow.below h m
theorem Strs.shape {w:World} {v:Value} {ss:List ByteArray} (h:Strs w v ss):∃ (a:Option Addr) (cap:Nat),v = .slice a ss.length cap∧ss.length≤cap∧cap≤maxLen ∧
  (∀ i,i < ss.length→∃ b o:Nat,a = some ⟨b,o,none⟩∧b < w.heap.size∧∀ j,j < ss.length→w.cell? ⟨b,o + j,none⟩ = some (.string (ss.getD j ByteArray.empty))):=by
 obtain ⟨_,a,cap,rfl,h1,h2,h3⟩:=h;refine ⟨a,cap,rfl,h1,h2,fun i hi => ?_⟩;obtain ⟨b,o,rfl,hb,hc⟩:=h3 (by omega);refine ⟨b,o,rfl,hb,fun j hj => hc j _ ?_⟩;rw [List.getElem?_map,List.getD_eq_getElem?_getD,List.getElem?_eq_getElem hj];rfl
end Go.Proofs.YtdpnfkjafhbndaaGreatDoor
namespace Go.Proofs.YtdpnfkjafhbndaaGreatDoor
open Go.RowKit
inductive Tree where
  | leaf (v:Value)
  | row (size n:Nat) (ds:List Tree)
mutual
def Reads (w:World) (X:List Nat):Tree→Value→Prop
 | .leaf u,v => v = u
 | .row size n ds,v => ∃ xs,IsRow w size v n xs∧(0 < n→∀ b,v.ownBlock = some b→b ∉ X)∧ReadsL w X ds xs
def ReadsL (w:World) (X:List Nat):List Tree→List Value→Prop
 | [],xs => xs = []
 | d :: ds,xs => ∃ x rest,xs = x :: rest∧Reads w X d x∧ReadsL w X ds rest
end
theorem IsRow.mod' {w w':World} {size:Nat} {v:Value} {n:Nat} {xs:List Value} {X:List Nat} (h:IsRow w size v n xs) (m:Mod X w w') (hx:0 < n→∀ b,v.ownBlock = some b→b ∉ X):IsRow w' size v n xs:=by
 obtain ⟨hl,a,cap,rfl,h1,h2,h3⟩:=h;refine ⟨hl,a,cap,rfl,h1,h2,fun hn => ?_⟩;obtain ⟨b,o,rfl,hb,hc⟩:=h3 hn;exact ⟨b,o,rfl,Nat.lt_of_lt_of_le hb m.size,fun j u hj => m.cell (hc j u hj) (hx hn b rfl)⟩
mutual
theorem Reads.mod {w w':World} {X:List Nat} (m:Mod X w w'):∀ {d:Tree} {v:Value},Reads w X d v→Reads w' X d v
 | .leaf _,_,h => by rw [Reads] at h ⊢;exact h
 | .row _ _ _,_,h => by
  rw [Reads] at h ⊢;obtain ⟨xs,h1,h2,h3⟩:=h;exact ⟨xs,h1.mod' m h2,h2,ReadsL.mod m h3⟩
theorem ReadsL.mod {w w':World} {X:List Nat} (m:Mod X w w'):∀ {ds:List Tree} {xs:List Value},ReadsL w X ds xs→ReadsL w' X ds xs
 | [],_,h => by rw [ReadsL] at h ⊢;exact h
 | _ :: _,_,h => by
  rw [ReadsL] at h ⊢;obtain ⟨x,rest,e,h1,h2⟩:=h;exact ⟨x,rest,e,Reads.mod m h1,ReadsL.mod m h2⟩
end
mutual
theorem Reads.below {w w':World} {X:List Nat} (m:Bw w w'):∀ {d:Tree} {v:Value},Reads w X d v→Reads w' X d v
 | .leaf _,_,h => by rw [Reads] at h ⊢;exact h
 | .row _ _ _,_,h => by
  rw [Reads] at h ⊢;obtain ⟨xs,h1,h2,h3⟩:=h;exact ⟨xs,h1.below m,h2,ReadsL.below m h3⟩
theorem ReadsL.below {w w':World} {X:List Nat} (m:Bw w w'):∀ {ds:List Tree} {xs:List Value},ReadsL w X ds xs→ReadsL w' X ds xs
 | [],_,h => by rw [ReadsL] at h ⊢;exact h
 | _ :: _,_,h => by
  rw [ReadsL] at h ⊢;obtain ⟨x,rest,e,h1,h2⟩:=h;exact ⟨x,rest,e,Reads.below m h1,ReadsL.below m h2⟩
end
mutual
theorem Reads.fewer {w:World} {X Y:List Nat} (hs:∀ k,k∈Y→k∈X):∀ {d:Tree} {v:Value},Reads w X d v→Reads w Y d v
 | .leaf _,_,h => by rw [Reads] at h ⊢;exact h
 | .row _ _ _,_,h => by
  rw [Reads] at h ⊢;obtain ⟨xs,h1,h2,h3⟩:=h;exact ⟨xs,h1,fun hn b hb hy => h2 hn b hb (hs b hy),ReadsL.fewer hs h3⟩
theorem ReadsL.fewer {w:World} {X Y:List Nat} (hs:∀ k,k∈Y→k∈X):∀ {ds:List Tree} {xs:List Value},ReadsL w X ds xs→ReadsL w Y ds xs
 | [],_,h => by rw [ReadsL] at h ⊢;exact h
 | _ :: _,_,h => by
  rw [ReadsL] at h ⊢;obtain ⟨x,rest,e,h1,h2⟩:=h;exact ⟨x,rest,e,Reads.fewer hs h1,ReadsL.fewer hs h2⟩
end
mutual
theorem Reads.more {w:World} {X:List Nat} {k:Nat} (hk:w.heap.size≤k):∀ {d:Tree} {v:Value},Reads w X d v→Reads w (k :: X) d v
 | .leaf _,_,h => by rw [Reads] at h ⊢;exact h
 | .row _ n _,v,h => by
  rw [Reads] at h ⊢;obtain ⟨xs,h1,h2,h3⟩:=h;refine ⟨xs,h1,fun hn b hb hy => ?_,ReadsL.more hk h3⟩
  rcases List.mem_cons.1 hy with rfl | hy
  ·obtain ⟨_,a,cap,rfl,_,_,h5⟩:=h1
   obtain ⟨b',o,rfl,hlt,_⟩:=h5 hn
   cases hb
   exact absurd hlt (Nat.not_lt.2 hk)
  ·exact h2 hn b hb hy
theorem ReadsL.more {w:World} {X:List Nat} {k:Nat} (hk:w.heap.size≤k):∀ {ds:List Tree} {xs:List Value},ReadsL w X ds xs→ReadsL w (k :: X) ds xs
 | [],_,h => by rw [ReadsL] at h ⊢;exact h
 | _ :: _,_,h => by
  rw [ReadsL] at h ⊢;obtain ⟨x,rest,e,h1,h2⟩:=h;exact ⟨x,rest,e,Reads.more hk h1,ReadsL.more hk h2⟩
end
theorem Reads.free {w:World} {X:List Nat} {d:Tree} {v:Value} (h:Reads w X d v):Reads w [] d v:=h.fewer (by simp)
theorem Reads.leafv {w:World} {X:List Nat} {u v:Value} (h:Reads w X (.leaf u) v):v = u:=by rw [Reads] at h;exact h
theorem Reads.leaf' (w:World) (X:List Nat) (u:Value):Reads w X (.leaf u) u:=by rw [Reads]
theorem ReadsL.nil (w:World) (X:List Nat):ReadsL w X [] []:=by rw [ReadsL]
theorem ReadsL.cons {w:World} {X:List Nat} {d:Tree} {ds:List Tree} {x:Value} {xs:List Value} (h:Reads w X d x) (hs:ReadsL w X ds xs):ReadsL w X (d :: ds) (x :: xs):=by
 rw [ReadsL];exact ⟨x,xs,rfl,h,hs⟩
theorem ReadsL.inv {w:World} {X:List Nat} {d:Tree} {ds:List Tree} {xs:List Value} (h:ReadsL w X (d :: ds) xs):∃ x rest,xs = x :: rest∧Reads w X d x∧ReadsL w X ds rest:=by
 rw [ReadsL] at h;exact h
theorem ReadsL.len {w:World} {X:List Nat}:∀ {ds:List Tree} {xs:List Value},ReadsL w X ds xs→xs.length = ds.length
 | [],_,h => by rw [ReadsL] at h;rw [h];rfl
 | _ :: _,_,h => by obtain ⟨x,rest,rfl,_,h2⟩:=h.inv;simp [ReadsL.len h2]
theorem ReadsL.at {w:World} {X:List Nat}:∀ {ds:List Tree} {xs:List Value} {i:Nat} {d:Tree},ReadsL w X ds xs→ds[i]? = some d→∃ x,xs[i]? = some x∧Reads w X d x
 | [],_,_,_,_,hi => by simp at hi
 | _ :: _,_,0,_,h,hi => by
  obtain ⟨x,rest,rfl,h1,_⟩:=h.inv;simp at hi;subst hi
  exact ⟨x,rfl,h1⟩
 | _ :: _,_,i + 1,d,h,hi => by
  obtain ⟨x,rest,rfl,_,h2⟩:=h.inv;obtain ⟨y,a,b⟩:=ReadsL.at (i:=i) (d:=d) h2 (by simpa using hi);exact ⟨y,by simpa using a,b⟩
theorem ReadsL.append {w:World} {X:List Nat} {es:List Tree} {ys:List Value} (h':ReadsL w X es ys):∀ {ds:List Tree} {xs:List Value},ReadsL w X ds xs→ReadsL w X (ds ++ es) (xs ++ ys)
 | [],_,h => by rw [ReadsL] at h;rw [h];exact h'
 | _ :: _,_,h => by
  obtain ⟨x,rest,rfl,h1,h2⟩:=h.inv;exact ReadsL.cons h1 (ReadsL.append h' h2)
theorem ReadsL.take {w:World} {X:List Nat}:∀ {ds:List Tree} {xs:List Value} (i:Nat),ReadsL w X ds xs→ReadsL w X (ds.take i) (xs.take i)
 | [],_,i,h => by rw [ReadsL] at h;rw [h];simp [ReadsL]
 | _ :: _,_,0,_ => by simp [ReadsL]
 | _ :: _,_,i + 1,h => by
  obtain ⟨x,rest,rfl,h1,h2⟩:=h.inv;exact ReadsL.cons h1 (ReadsL.take i h2)
theorem ReadsL.drop {w:World} {X:List Nat}:∀ {ds:List Tree} {xs:List Value} (i:Nat),ReadsL w X ds xs→ReadsL w X (ds.drop i) (xs.drop i)
 | [],_,i,h => by rw [ReadsL] at h;rw [h];simp [ReadsL]
 | _ :: _,_,0,h => h
 | _ :: _,_,i + 1,h => by
  obtain ⟨x,rest,rfl,_,h2⟩:=h.inv;exact ReadsL.drop i h2
section
variable {α:Type}
def rowT (size:Nat) (f:α→List Tree) (l:List α):Tree:=.row size l.length (l.flatMap f)
theorem flatMap_len {size:Nat} {f:α→List Tree} (hf:∀ a,(f a).length = size):∀ l:List α,(l.flatMap f).length = l.length * size
 | [] => by simp
 | a :: l => by simp [flatMap_len hf l,hf a,Nat.add_mul,Nat.add_comm]
theorem flatMap_at {size:Nat} {f:α→List Tree} (hf:∀ a,(f a).length = size):∀ (l:List α) (i j:Nat) (a:α) (d:Tree),l[i]? = some a→(f a)[j]? = some d→(l.flatMap f)[i * size + j]? = some d
 | [],_,_,_,_,h,_ => by simp at h
 | x :: l,0,j,a,d,h,hj => by
  simp at h;subst h
  have:j < (f x).length:=(List.getElem?_eq_some_iff.1 hj).1;rw [List.flatMap_cons,Nat.zero_mul,Nat.zero_add,List.getElem?_append_left this];exact hj
 | x :: l,i + 1,j,a,d,h,hj => by
  rw [List.flatMap_cons,List.getElem?_append_right (by rw [hf x,Nat.add_mul];omega),hf x,show (i + 1) * size + j - size = i * size + j by rw [Nat.add_mul];omega];exact flatMap_at hf l i j a d (by simpa using h) hj
theorem flatMap_take {size:Nat} {f:α→List Tree} (hf:∀ a,(f a).length = size):∀ (l:List α) (i:Nat),(l.flatMap f).take (i * size) = (l.take i).flatMap f
 | [],i => by simp
 | x :: l,0 => by simp
 | x :: l,i + 1 => by
  rw [List.flatMap_cons,List.take_append,hf x,show (i + 1) * size - size = i * size by rw [Nat.add_mul];omega,flatMap_take hf l i,List.take_of_length_le (by rw [hf x,Nat.add_mul];omega)];simp
theorem flatMap_drop {size:Nat} {f:α→List Tree} (hf:∀ a,(f a).length = size):∀ (l:List α) (i:Nat),(l.flatMap f).drop (i * size) = (l.drop i).flatMap f
 | [],i => by simp
 | x :: l,0 => by simp
 | x :: l,i + 1 => by
  rw [List.flatMap_cons,List.drop_append,hf x,show (i + 1) * size - size = i * size by rw [Nat.add_mul];omega,flatMap_drop hf l i,List.drop_of_length_le (by rw [hf x,Nat.add_mul];omega)];simp
theorem Reads.val {w:World} {X:List Nat} {size:Nat} {f:α→List Tree} {l:List α} {v:Value} (h:Reads w X (rowT size f l) v) :
    ∃ (a:Option Addr) (cap:Nat),v = .slice a l.length cap∧l.length≤cap∧cap≤9223372036854775807:=by
  rw [rowT,Reads] at h
  obtain ⟨xs,⟨_,a,cap,e,h1,h2,_⟩,_,_⟩:=h
  exact ⟨a,cap,e,h1,by unfold maxLen at h2;omega⟩
theorem Reads.elem {w:World} {X:List Nat} {size:Nat} {f:α→List Tree} (hf:∀ a,(f a).length = size) {l:List α} {a:Option Addr} {cap:Nat} (h:Reads w X (rowT size f l) (.slice a l.length cap)) {i:Nat} {x:α} (hi:l[i]? = some x) :
    ∃ b o:Nat,a = some ⟨b,o,none⟩∧b < w.heap.size∧∀ j d,(f x)[j]? = some d→∃ u,w.cell? ⟨b,o + i * size + j,none⟩ = some u∧Reads w X d u:=by
  rw [rowT,Reads] at h
  obtain ⟨xs,⟨_,a',cap',e,_,_,h3⟩,_,hr⟩:=h
  cases e
  have hlt:i < l.length:=(List.getElem?_eq_some_iff.1 hi).1
  obtain ⟨b,o,rfl,hb,hc⟩:=h3 (by omega)
  refine ⟨b,o,rfl,hb,fun j d hj => ?_⟩
  obtain ⟨u,hu,hd⟩:=hr.at (flatMap_at hf l i j x d hi hj)
  exact ⟨u,by have:=hc _ _ hu;rwa [← Nat.add_assoc] at this,hd⟩
theorem Reads.nilRow (w:World) (X:List Nat) (size:Nat) (f:α→List Tree):Reads w X (rowT size f []) (.slice none 0 0):=by
 rw [rowT,Reads];exact ⟨[],⟨by simp,none,0,rfl,Nat.le_refl _,Nat.zero_le _,fun h => absurd h (Nat.lt_irrefl _)⟩,fun h => absurd h (Nat.lt_irrefl _),by simp [ReadsL]⟩
theorem Reads.dropRow {w:World} {X:List Nat} {size:Nat} {f:α→List Tree} (hf:∀ a,(f a).length = size) {l:List α} {b o cap i:Nat} (h:Reads w X (rowT size f l) (.slice (some ⟨b,o,none⟩) l.length cap)) (hi:i≤l.length) :
    Reads w X (rowT size f (l.drop i)) (.slice (some ⟨b,o + i * size,none⟩) (l.length - i) (cap - i)):=by
  rw [rowT,Reads] at h ⊢
  obtain ⟨xs,⟨hl,a',cap',e,h1,h2,h3⟩,hx,hr⟩:=h
  cases e
  have hlen:(l.drop i).length = l.length - i:=by rw [List.length_drop]
  refine ⟨xs.drop (i * size),⟨by rw [hlen,List.length_drop,hl,Nat.sub_mul],_,cap - i,by rw [hlen],by rw [hlen];omega,by omega,fun hn => ?_⟩,fun hn b hb => hx (by omega) b hb,?_⟩
  · obtain ⟨b',o',e,hb,hc⟩:=h3 (by omega)
    cases e
    refine ⟨b,_,rfl,hb,fun j u hj => ?_⟩
    rw [List.getElem?_drop] at hj
    have:=hc _ u hj
    rwa [← Nat.add_assoc] at this
  · rw [← flatMap_drop hf];exact hr.drop _
theorem Reads.ofRow {w:World} {X:List Nat} {size:Nat} {f:α→List Tree} {l:List α} {v:Value} {xs:List Value} (h:IsRow w size v l.length xs) (hx:0 < l.length→∀ b,v.ownBlock = some b→b ∉ X) (hr:ReadsL w X (l.flatMap f) xs):Reads w X (rowT size f l) v:=by
  rw [rowT,Reads];exact ⟨xs,h,hx,hr⟩
theorem Reads.toRow {w:World} {X:List Nat} {size:Nat} {f:α→List Tree} {l:List α} {v:Value} (h:Reads w X (rowT size f l) v):∃ xs,IsRow w size v l.length xs∧(0 < l.length→∀ b,v.ownBlock = some b→b ∉ X)∧ReadsL w X (l.flatMap f) xs:=by
 rw [rowT,Reads] at h;exact h
end
def strT (s:ByteArray):Tree:=.leaf (.string s)
def strsT (ss:List ByteArray):Tree:=rowT 1 (fun s => [strT s]) ss
theorem readsL_strs {w:World} {X:List Nat}:∀ {ss:List ByteArray} {xs:List Value},ReadsL w X (ss.flatMap fun s => [strT s]) xs↔xs = ss.map .string
 | [],xs => by simp [ReadsL]
 | s :: ss,xs => by
  rw [List.flatMap_cons,List.map_cons]
  constructor
  ·intro h
   obtain ⟨x,rest,rfl,h1,h2⟩:=ReadsL.inv h;rw [Reads.leafv h1,readsL_strs.1 h2]
  ·rintro rfl
   exact ReadsL.cons (Reads.leaf' _ _ _) (readsL_strs.2 rfl)
theorem reads_strs {w:World} {X:List Nat} {ss:List ByteArray} {v:Value}:Reads w X (strsT ss) v↔Strs w v ss∧(0 < ss.length→∀ b,v.ownBlock = some b→b ∉ X):=by
 constructor
 ·intro h
  obtain ⟨xs,h1,h2,h3⟩:=Reads.toRow h;rw [readsL_strs.1 h3] at h1;exact ⟨h1,h2⟩
 ·rintro ⟨h1,h2⟩
  exact Reads.ofRow h1 h2 (readsL_strs.2 rfl)
end Go.Proofs.YtdpnfkjafhbndaaGreatDoor
namespace Go.Proofs.YtdpnfkjafhbndaaGreatDoor
open Go.Maps (Keyed)
open Go.RowKit
def heldE (v:Value):Option (DataW Value × List MemPlace):=some (.held v,[])
def IsMapS (P:Program) (k:TypeId) (w:World) (b n:Nat) (f:List UInt8→Option Value):Prop:=
  ∃ D:DataW Value,w.ownsMap P k heldE b n D∧Maps.IsMap D∧∀ s,(∀ z,D.atKey (.string s) (.held z) = .held ((f s).getD z))∧Maps.has D (.string s) = (f s).isSome
theorem IsMapS.made (P:Program) (k:TypeId) (w:World):IsMapS P k (w.alloc (.map #[] 0)) w.heap.size 0 (fun _ => none):=
 ⟨.map [],World.ownsMap_made w P k heldE,⟨[],rfl⟩,fun _ => ⟨fun _ => rfl,rfl⟩⟩
theorem IsMapS.lt {P:Program} {k:TypeId} {w:World} {b n:Nat} {f:List UInt8→Option Value} (h:IsMapS P k w b n f):b < w.heap.size:=by
 obtain ⟨D,h1,_⟩:=h;exact h1.lt
theorem IsMapS.kept {P:Program} {k:TypeId} {w w':World} {b n:Nat} {f:List UInt8→Option Value} {row:Option Nat} (h:IsMapS P k w b n f) (g:w.grownBy w' row) (hne:some b≠row):IsMapS P k w' b n f:=by
 obtain ⟨D,h1,h2⟩:=h;exact ⟨D,h1.kept g hne,h2⟩
theorem IsMapS.block {P:Program} {k:TypeId} {w w':World} {b n:Nat} {f:List UInt8→Option Value} (h:IsMapS P k w b n f) (e:w'.heap[b]? = w.heap[b]?):IsMapS P k w' b n f:=by
 obtain ⟨D,⟨es,c,h1,h2⟩,h3⟩:=h;exact ⟨D,⟨es,c,e.trans h1,h2⟩,h3⟩
theorem IsMapS.below {P:Program} {k:TypeId} {w w':World} {b n:Nat} {f:List UInt8→Option Value} (h:IsMapS P k w b n f) (m:Bw w w'):IsMapS P k w' b n f:=h.block (m.block _ h.lt)
theorem IsMapS.look {P:Program} {k t e:TypeId} {w:World} {b n:Nat} {f:List UInt8→Option Value} (h:IsMapS P k w b n f) (K:Keyed P k) (ht:P.underlying t = some (.map k e)) {z:Value} (hz:(zeroValue e).run P w = .ok z w)
  {s:ByteArray} (hk:keyOf P k (.string s) = some (.string s.data.toList)):(Instr.lookup t (.map (some b)) (.string s) false).run P w = .ok ((f s.data.toList).getD z) w:=by
 obtain ⟨D,h1,_,h3⟩:=h;obtain ⟨v,ps,hr,hv⟩:=h1.lookup K ht hz (zd:=.held z) (zp:=[]) rfl hk;rw [(h3 _).1] at hv;unfold heldE at hv
 injection hv with hv
 injection hv with hv
 injection hv with hv
 rw [hr,hv]
theorem IsMapS.put {P:Program} {k t e:TypeId} {w:World} {b n:Nat} {f:List UInt8→Option Value} (h:IsMapS P k w b n f) (K:Keyed P k) (ht:P.underlying t = some (.map k e)) (hn:n < maxLen)
  {s:ByteArray} (hk:keyOf P k (.string s) = some (.string s.data.toList)) (v:Value) :
  ∃ w',(Instr.mapUpdate t (.map (some b)) (.string s) v).run P w = .ok () w'∧IsMapS P k w' b (n + 1) (fun x => if x = s.data.toList then some v else f x)∧w.grownBy w' (some b):=by
 obtain ⟨D,h1,h2,h3⟩:=h;obtain ⟨w',hr,ho,hg⟩:=h1.update K ht hn hk (val:=v) (d:=.held v) (ps:=[]) rfl;refine ⟨w',hr,⟨_,ho,?_,fun x => ?_⟩,hg⟩
 ·obtain ⟨es,rfl⟩:=h2;exact ⟨_,rfl⟩
 ·by_cases hx:x = s.data.toList
  ·subst hx
   simp only [if_pos]
   exact ⟨fun z => Maps.atKey_put_same h2 (K.key hk) _ _,Maps.has_put_same h2 (K.key hk) _⟩
  ·simp only [if_neg hx]
   have hne:(Lit.string x)≠.string s.data.toList:=fun e => hx (by injection e);exact ⟨fun z => by rw [Maps.atKey_put_other hne];exact (h3 x).1 z,by rw [Maps.has_put_other hne];exact (h3 x).2⟩
end Go.Proofs.YtdpnfkjafhbndaaGreatDoor
namespace Go.Proofs.YtdpnfkjafhbndaaGreatDoor
open Go.RowKit
theorem take_at {α:Type} {l:List α} {k:Nat} {x:α} (h:l[k]? = some x):l.take (k + 1) = l.take k ++ [x]:=by
 obtain ⟨hk,e⟩:=List.getElem?_eq_some_iff.1 h;rw [List.take_succ_eq_append_getElem hk,e]
theorem owns_block {w:World} {base:Nat} {e:TypeId} {size:Nat} {v:Value} {n:Nat} {xs:List Value} (h:w.ownsRow base e size v n xs) {b:Nat} (hb:v.ownBlock = some b):base≤b:=by
 rcases h.2 with ⟨rfl,_⟩ | ⟨g,cap,cur,rfl,hg,_⟩
 ·cases hb
 ·cases hb;exact hg
theorem owns_row {w:World} {base:Nat} {e:TypeId} {size:Nat} {v:Value} {n:Nat} {xs:List Value} (h:w.ownsRow base e size v n xs):IsRow w size v n xs:=by
 obtain ⟨h1,h2⟩:=h
 rcases h2 with ⟨rfl,rfl⟩ | ⟨g,cap,cur,rfl,hg,hh,hn,hc,hs,ht⟩
 ·exact ⟨h1,none,0,rfl,Nat.le_refl _,Nat.zero_le _,fun h => absurd h (Nat.lt_irrefl _)⟩
 ·refine ⟨h1,_,cap,rfl,hn,hc,fun _ => ⟨g,0,rfl,(Array.getElem?_eq_some_iff.1 hh).1,fun j u hj => ?_⟩⟩
  rw [← ht,List.getElem?_take] at hj;split at hj
  ·simp only [World.cell?,hh,Nat.zero_add,Option.isSome_none,Bool.false_eq_true,if_false]
   rw [← Array.getElem?_toList];exact hj
  ·cases hj
theorem owns_val {w:World} {base:Nat} {e:TypeId} {size:Nat} {v:Value} {n:Nat} {xs:List Value} (h:w.ownsRow base e size v n xs):∃ a cap,v = .slice a n cap:=by
 obtain ⟨_,a,cap,e,_⟩:=owns_row h;exact ⟨a,cap,e⟩
theorem mod_of_grown {w w':World} {row:Option Nat} (g:w.grownBy w' row):Mod row.toList w w':=
 ⟨g.os,g.tape,g.output,g.size,fun k hk hx => g.block k hk (fun e => hx (by rw [← e];simp))⟩
end Go.Proofs.YtdpnfkjafhbndaaGreatDoor
namespace Go.Proofs.YtdpnfkjafhbndaaGreatDoor
open Go.RowKit
theorem heap_setCell_at {w:World} {R:Nat} {cs:Array Value} {t:TypeId} {m:Nat × Nat} (h:w.heap[R]? = some (.cells cs t m)) (o:Nat) (v:Value):(w.setCell ⟨R,o,none⟩ v).heap[R]? = some (.cells (cs.setIfInBounds o v) t m):=by
 obtain ⟨hlt,hk⟩:=Array.getElem?_eq_some_iff.1 h;show (w.heap.modify R _)[R]? = _
 rw [Array.getElem?_eq_getElem (by rw [Array.size_modify];exact hlt),Array.getElem_modify_self,hk];rfl
def CBox (w:World) (B:Nat) (t:TypeId) (xs:Array Value):Prop:=w.heap[B]? = some (.cells xs t (0,0))
theorem CBox.lt {w:World} {B:Nat} {t:TypeId} {xs:Array Value} (h:CBox w B t xs):B < w.heap.size:=(Array.getElem?_eq_some_iff.1 h).1
theorem CBox.cell {w:World} {B:Nat} {t:TypeId} {xs:Array Value} (h:CBox w B t xs) {i:Nat} {v:Value} (hi:xs[i]? = some v):w.cell? ⟨B,i,none⟩ = some v:=by
 have h':w.heap[B]? = _:=h;simp [World.cell?,h',hi]
theorem CBox.frozen {w:World} {B:Nat} {t:TypeId} {xs:Array Value} (h:CBox w B t xs) (o:Nat):w.frozen? ⟨B,o,none⟩ = false:=by
 have h':w.heap[B]? = _:=h;simp [World.frozen?,h']
theorem CBox.new (w:World) (t:TypeId) (xs:Array Value):CBox (w.alloc (.cells xs t)) w.heap.size t xs:=World.alloc_heap_new _ _
theorem cell_new (w:World) (xs:Array Value) (t:TypeId):∀ j u,xs.toList[j]? = some u→(w.alloc (.cells xs t)).cell? ((⟨w.heap.size,0,none⟩:Addr).add j) = some u:=by
 intro j u hj;have h:=(CBox.new w t xs).cell (i:=j) (v:=u) (by rw [← Array.getElem?_toList];exact hj);generalize World.alloc w _ = W at *
 by_cases h0:j = 0
 ·subst h0;simpa [Addr.add] using h
 ·simpa [Addr.add,h0] using h
theorem CBox.below {w w':World} {B:Nat} {t:TypeId} {xs:Array Value} (h:CBox w B t xs) (m:Bw w w'):CBox w' B t xs:=(m.block B h.lt).trans h
theorem CBox.alloc {w:World} {B:Nat} {t:TypeId} {xs:Array Value} (h:CBox w B t xs) (o:Obj):CBox (w.alloc o) B t xs:=h.below (qalloc w o)
theorem CBox.mod {X:List Nat} {w w':World} {B:Nat} {t:TypeId} {xs:Array Value} (h:CBox w B t xs) (m:Mod X w w') (hx:B ∉ X):CBox w' B t xs:=(m.block B h.lt hx).trans h
theorem CBox.set {w:World} {B:Nat} {t:TypeId} {xs:Array Value} (h:CBox w B t xs) (o:Nat) (v:Value):CBox (w.setCell ⟨B,o,none⟩ v) B t (xs.setIfInBounds o v):=heap_setCell_at h o v
theorem cells3 {w:World} {B:Nat} {t:TypeId} {a0 a1 a2:Value} (h:CBox w B t #[a0,a1,a2]):w.cell? ⟨B,0,none⟩ = some a0∧w.cell? ⟨B,1,none⟩ = some a1∧w.cell? ⟨B,2,none⟩ = some a2∧B < w.heap.size:=⟨h.cell (i:=0) rfl,h.cell (i:=1) rfl,h.cell (i:=2) rfl,h.lt⟩
theorem frozen3 {w:World} {B:Nat} {t:TypeId} {xs:Array Value} (h:CBox w B t xs):w.frozen? ⟨B,0,none⟩ = false∧w.frozen? ⟨B,1,none⟩ = false∧w.frozen? ⟨B,2,none⟩ = false:=⟨h.frozen 0,h.frozen 1,h.frozen 2⟩
theorem cells4 {w:World} {B:Nat} {t:TypeId} {a0 a1 a2 a3:Value} (h:CBox w B t #[a0,a1,a2,a3]):w.cell? ⟨B,0,none⟩ = some a0∧w.cell? ⟨B,1,none⟩ = some a1∧w.cell? ⟨B,2,none⟩ = some a2∧w.cell? ⟨B,3,none⟩ = some a3∧B < w.heap.size:=⟨h.cell (i:=0) rfl,h.cell (i:=1) rfl,h.cell (i:=2) rfl,h.cell (i:=3) rfl,h.lt⟩
theorem frozen4 {w:World} {B:Nat} {t:TypeId} {xs:Array Value} (h:CBox w B t xs):w.frozen? ⟨B,0,none⟩ = false∧w.frozen? ⟨B,1,none⟩ = false∧w.frozen? ⟨B,2,none⟩ = false∧w.frozen? ⟨B,3,none⟩ = false:=⟨h.frozen 0,h.frozen 1,h.frozen 2,h.frozen 3⟩
theorem cells6 {w:World} {B:Nat} {t:TypeId} {a0 a1 a2 a3 a4 a5:Value} (h:CBox w B t #[a0,a1,a2,a3,a4,a5]):w.cell? ⟨B,0,none⟩ = some a0∧w.cell? ⟨B,1,none⟩ = some a1∧w.cell? ⟨B,2,none⟩ = some a2∧w.cell? ⟨B,3,none⟩ = some a3∧w.cell? ⟨B,4,none⟩ = some a4∧w.cell? ⟨B,5,none⟩ = some a5∧B < w.heap.size:=⟨h.cell (i:=0) rfl,h.cell (i:=1) rfl,h.cell (i:=2) rfl,h.cell (i:=3) rfl,h.cell (i:=4) rfl,h.cell (i:=5) rfl,h.lt⟩
theorem frozen6 {w:World} {B:Nat} {t:TypeId} {xs:Array Value} (h:CBox w B t xs):w.frozen? ⟨B,0,none⟩ = false∧w.frozen? ⟨B,1,none⟩ = false∧w.frozen? ⟨B,2,none⟩ = false∧w.frozen? ⟨B,3,none⟩ = false∧w.frozen? ⟨B,4,none⟩ = false∧w.frozen? ⟨B,5,none⟩ = false:=⟨h.frozen 0,h.frozen 1,h.frozen 2,h.frozen 3,h.frozen 4,h.frozen 5⟩
theorem cells11 {w:World} {B:Nat} {t:TypeId} {a0 a1 a2 a3 a4 a5 a6 a7 a8 a9 a10:Value} (h:CBox w B t #[a0,a1,a2,a3,a4,a5,a6,a7,a8,a9,a10]):w.cell? ⟨B,0,none⟩ = some a0∧w.cell? ⟨B,1,none⟩ = some a1∧w.cell? ⟨B,2,none⟩ = some a2∧w.cell? ⟨B,3,none⟩ = some a3∧w.cell? ⟨B,4,none⟩ = some a4∧w.cell? ⟨B,5,none⟩ = some a5∧w.cell? ⟨B,6,none⟩ = some a6∧w.cell? ⟨B,7,none⟩ = some a7∧w.cell? ⟨B,8,none⟩ = some a8∧w.cell? ⟨B,9,none⟩ = some a9∧w.cell? ⟨B,10,none⟩ = some a10∧B < w.heap.size:=⟨h.cell (i:=0) rfl,h.cell (i:=1) rfl,h.cell (i:=2) rfl,h.cell (i:=3) rfl,h.cell (i:=4) rfl,h.cell (i:=5) rfl,h.cell (i:=6) rfl,h.cell (i:=7) rfl,h.cell (i:=8) rfl,h.cell (i:=9) rfl,h.cell (i:=10) rfl,h.lt⟩
theorem frozen11 {w:World} {B:Nat} {t:TypeId} {xs:Array Value} (h:CBox w B t xs):w.frozen? ⟨B,0,none⟩ = false∧w.frozen? ⟨B,1,none⟩ = false∧w.frozen? ⟨B,2,none⟩ = false∧w.frozen? ⟨B,3,none⟩ = false∧w.frozen? ⟨B,4,none⟩ = false∧w.frozen? ⟨B,5,none⟩ = false∧w.frozen? ⟨B,6,none⟩ = false∧w.frozen? ⟨B,7,none⟩ = false∧w.frozen? ⟨B,8,none⟩ = false∧w.frozen? ⟨B,9,none⟩ = false∧w.frozen? ⟨B,10,none⟩ = false:=⟨h.frozen 0,h.frozen 1,h.frozen 2,h.frozen 3,h.frozen 4,h.frozen 5,h.frozen 6,h.frozen 7,h.frozen 8,h.frozen 9,h.frozen 10⟩
theorem owns_below {w w':World} {base:Nat} {e:TypeId} {size:Nat} {v:Value} {n:Nat} {xs:List Value} (h:w.ownsRow base e size v n xs) (m:Bw w w'):w'.ownsRow base e size v n xs:=by
 obtain ⟨h1,h2⟩:=h;refine ⟨h1,?_⟩
 rcases h2 with h2 | ⟨g,cap,cur,h3,h4,h5,h6⟩
 ·exact .inl h2
 ·exact .inr ⟨g,cap,cur,h3,h4,(m.block g (Array.getElem?_eq_some_iff.1 h5).1).trans h5,h6⟩
theorem owns_mod {X:List Nat} {w w':World} {base:Nat} {e:TypeId} {size:Nat} {v:Value} {n:Nat} {xs:List Value} (h:w.ownsRow base e size v n xs) (m:Mod X w w') (hx:∀ b,v.ownBlock = some b→b ∉ X):w'.ownsRow base e size v n xs:=by
 obtain ⟨h1,h2⟩:=h;refine ⟨h1,?_⟩
 rcases h2 with h2 | ⟨g,cap,cur,rfl,h4,h5,h6⟩
 ·exact .inl h2
 ·exact .inr ⟨g,cap,cur,rfl,h4,(m.block g (Array.getElem?_eq_some_iff.1 h5).1 (hx g rfl)).trans h5,h6⟩
def OwnT {α:Type} (w:World) (X:List Nat) (base:Nat) (e:TypeId) (size:Nat) (f:α→List Tree) (v:Value) (l:List α):Prop:=
  ∃ xs,w.ownsRow base e size v l.length xs∧ReadsL w (v.ownBlock.toList ++ X) (l.flatMap f) xs
section
variable {α:Type} {w w':World} {X:List Nat} {base:Nat} {e:TypeId} {size:Nat} {f:α→List Tree} {v v':Value} {l:List α}
theorem OwnT.nil (w:World) (X:List Nat) (base:Nat) (e:TypeId) (size:Nat) (f:α→List Tree):OwnT w X base e size f (.slice none 0 0) []:=⟨[],World.ownsRow_nil w base e size,by simp [ReadsL]⟩
theorem OwnT.val (h:OwnT w X base e size f v l):∃ a cap,v = .slice a l.length cap∧l.length≤cap∧cap≤9223372036854775807:=by
 obtain ⟨xs,h1,_⟩:=h;obtain ⟨_,a,cap,e,h2,h3,_⟩:=owns_row h1;exact ⟨a,cap,e,h2,by unfold maxLen at h3;omega⟩
theorem OwnT.ge (h:OwnT w X base e size f v l) {b:Nat} (hb:v.ownBlock = some b):base≤b:=by
 obtain ⟨xs,h1,_⟩:=h;exact owns_block h1 hb
theorem OwnT.lt (h:OwnT w X base e size f v l) {b:Nat} (hb:v.ownBlock = some b):b < w.heap.size:=by
 obtain ⟨xs,h1,_⟩:=h;exact (h1.lt b hb).2
theorem OwnT.below (h:OwnT w X base e size f v l) (m:Bw w w'):OwnT w' X base e size f v l:=by
 obtain ⟨xs,h1,h2⟩:=h;exact ⟨xs,owns_below h1 m,h2.below m⟩
theorem OwnT.mod (h:OwnT w X base e size f v l) (m:Mod X w w') (hx:∀ b,v.ownBlock = some b→b ∉ X):OwnT w' X base e size f v l:=by
 obtain ⟨xs,h1,h2⟩:=h;exact ⟨xs,owns_mod h1 m hx,h2.mod (m.mono (fun k hk => List.mem_append_right _ hk))⟩
theorem OwnT.fewer (h:OwnT w X base e size f v l) {Y:List Nat} (hs:∀ k,k∈Y→k∈X):OwnT w Y base e size f v l:=by
 obtain ⟨xs,h1,h2⟩:=h
 exact ⟨xs,h1,h2.fewer (fun k hk => by rcases List.mem_append.1 hk with hk | hk;exact List.mem_append_left _ hk;exact List.mem_append_right _ (hs k hk))⟩
theorem OwnT.more (h:OwnT w X base e size f v l) {k:Nat} (hk:w.heap.size≤k):OwnT w (k :: X) base e size f v l:=by
 obtain ⟨xs,h1,h2⟩:=h;refine ⟨xs,h1,(h2.more hk).fewer (fun j hj => ?_)⟩
 rcases List.mem_append.1 hj with hj | hj
 ·exact List.mem_cons_of_mem _ (List.mem_append_left _ hj)
 ·rcases List.mem_cons.1 hj with rfl | hj
  ·exact List.mem_cons_self
  ·exact List.mem_cons_of_mem _ (List.mem_append_right _ hj)
theorem OwnT.reads (h:OwnT w X base e size f v l) (hx:∀ b,v.ownBlock = some b→b ∉ X):Reads w X (rowT size f l) v:=by
 obtain ⟨xs,h1,h2⟩:=h;exact Reads.ofRow (owns_row h1) (fun _ => hx) (h2.fewer (fun k hk => List.mem_append_right _ hk))
theorem OwnT.reads0 (h:OwnT w X base e size f v l):Reads w [] (rowT size f l) v:=(h.fewer (Y:=[]) (by simp)).reads (by simp)
theorem OwnT.grown {xs news:List Value} {a:α} (h1:w.ownsRow base e size v l.length xs) (h2:ReadsL w (v.ownBlock.toList ++ X) (l.flatMap f) xs) (h3:ReadsL w (v.ownBlock.toList ++ X) (f a) news)
    (ho:w'.ownsRow base e size v' (l.length + 1) (xs ++ news)) (hg:w.grownBy w' v.ownBlock) (hb:v'.ownBlock = v.ownBlock∨v'.ownBlock = some w.heap.size):OwnT w' X base e size f v' (l ++ [a]):=by
  have _:=h1
  refine ⟨xs ++ news,by simpa using ho,?_⟩
  have h4:ReadsL w (v.ownBlock.toList ++ X) ((l ++ [a]).flatMap f) (xs ++ news):=by
    rw [List.flatMap_append,List.flatMap_cons,List.flatMap_nil,List.append_nil];exact ReadsL.append h3 h2
  have m:Mod (w.heap.size :: (v.ownBlock.toList ++ X)) w w':=(mod_of_grown hg).mono (fun k hk => List.mem_cons_of_mem _ (List.mem_append_left _ hk))
  have h5:=(h4.more (Nat.le_refl _)).mod m
  refine h5.fewer (fun k hk => ?_)
  rcases List.mem_append.1 hk with hk | hk
  · rcases hb with hb | hb
    · rw [hb] at hk;exact List.mem_cons_of_mem _ (List.mem_append_left _ hk)
    · rw [hb] at hk
      rw [show k = w.heap.size by simpa using hk]
      exact List.mem_cons_self
  · exact List.mem_cons_of_mem _ (List.mem_append_right _ hk)
end
end Go.Proofs.YtdpnfkjafhbndaaGreatDoor

