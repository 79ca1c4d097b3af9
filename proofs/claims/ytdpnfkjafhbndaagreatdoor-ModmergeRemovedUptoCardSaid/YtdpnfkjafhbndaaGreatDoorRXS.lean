/- modmerge.mergeDecl in one contract; the declaration of an id, where it lies; the columns of modmerge.Merge. The columns of modmerge.Merge: for each id a block of three slices, and a map that leads to them. One declaration appended to an owned list of declarations; what the merge of declarations amounts to, step by step. -/
import Derived.Test.YtdpnfkjafhbndaaGreatDoorRXR
import Derived.Test.YtdpnfkjafhbndaaGreatDoorRNB
import Derived.Test.YtdpnfkjafhbndaaGreatDoorRNC
import Derived.Test.YtdpnfkjafhbndaaGreatDoorRR7
import Derived.Test.YtdpnfkjafhbndaaGreatDoorRG5
namespace Go.Proofs.YtdpnfkjafhbndaaGreatDoor
open Go.RowKit Go.Shelf Go.Maps
theorem mergeDecl_any (ob ol or:Option ODecl) (ab al ar:Option Addr) (cb cl cr:Nat) (X:List Nat) (w:World) (hX:∀ k,k∈X→k < w.heap.size) (hb:OneX w X ob ab cb) (hl:OneX w X ol al cl) (hr:OneX w X or ar cr) (h1:cl≤9223372036854775807) (h2:cr≤9223372036854775807) :
  Calls Tryz.prog 99 #[.slice ab ob.toList.length cb,.slice al ol.toList.length cl,.slice ar or.toList.length cr] w (MergedO ob ol or X w):=by
 cases ol with
 | none => cases or with
  | none => exact mergeDecl_none ob _ al ar cl cr X w
  | some r => exact mergeDecl_oner ob r ab al ar cb cl cr X w hX hb hr h1
 | some l => cases or with
  | none => exact mergeDecl_onel ob l ab al ar cb cl cr X w hX hb hl h2
  | some r => exact mergeDecl_both ob l r ab al ar cb cl cr X w hX hb hl hr
theorem reads_one {w:World} {X:List Nat} {l:List ODecl} {a:Option Addr} {cap i:Nat} {d:ODecl} (h:Reads w X (declsT l) (.slice a l.length cap)) (hi:l[i]? = some d) :
    ∃ b o,a = some ⟨b,o,none⟩∧b < w.heap.size∧Reads w X (declsT [d]) (.slice (some ⟨b,o + i * 11,none⟩) 1 1):=by
  obtain ⟨xs,⟨hlen,a',cap',he,h1,h2,h3⟩,hx,hr⟩:=h.toRow
  injection he with e1 e2 e3
  subst e1
  have hil:i < l.length:=(List.getElem?_eq_some_iff.1 hi).1
  obtain ⟨b,o,rfl,hb,hc⟩:=h3 (by omega)
  refine ⟨b,o,rfl,hb,?_⟩
  have hsp:l = l.take i ++ ([d] ++ l.drop (i + 1)):=by
    have:=take_at hi
    rw [← List.append_assoc,← this,List.take_append_drop]
  have hxs:ReadsL w X ([d].flatMap declT) ((xs.drop (i * 11)).take 11):=by
    have hfl:(l.take i).flatMap declT = (l.flatMap declT).take (i * 11):=by
      conv => rhs;rw [hsp,List.flatMap_append]
      rw [List.take_left' (by rw [flatMap_len declT_len,List.length_take];congr 1;omega)]
    have h4:=(hr.drop (i * 11)).take 11
    have:((l.flatMap declT).drop (i * 11)).take 11 = [d].flatMap declT:=by
      conv => lhs;rw [hsp,List.flatMap_append,List.flatMap_append]
      rw [List.drop_left' (by rw [flatMap_len declT_len,List.length_take];congr 1;omega),List.take_left' (by rw [flatMap_len declT_len];simp)]
    rwa [this] at h4
  refine Reads.ofRow (xs:=(xs.drop (i * 11)).take 11) ⟨?_,_,_,rfl,Nat.le_refl _,by unfold maxLen;omega,fun _ => ⟨b,o + i * 11,rfl,hb,fun j u hj => ?_⟩⟩ (fun _ k hk => hx (by omega) k hk) hxs
  · rw [List.length_take,List.length_drop,hlen]
    have:i * 11 + 11≤l.length * 11:=by omega
    simp;omega
  · rw [List.getElem?_take] at hj
    split at hj
    · rw [List.getElem?_drop] at hj
      have:=hc _ _ hj
      rwa [← Nat.add_assoc] at this
    · cases hj
def Col (w:World) (X:List Nat) (od:Option ODecl) (v:Value):Prop:=∃ a c,v = .slice a od.toList.length c∧c≤9223372036854775807∧OneX w X od a c
theorem Col.none (w:World) (X:List Nat):Col w X none (.slice none 0 0):=⟨_,_,rfl,by omega,Reads_nil _ _ _ _ (by omega),fun d h => by cases h⟩
def ptrF (P:Int→Option Nat):Int→Option Value:=fun x => (P x).map fun p => .pointer (some ⟨p,0,.none⟩)
structure ColBox (X:List Nat) (wx w:World) (p:Nat) (o0 o1 o2:Option ODecl):Prop where
 of ::
 out:∃ v0 v1 v2,CBox w p 127 #[v0,v1,v2]∧Col wx X o0 v0∧Col wx X o1 v1∧Col wx X o2 v2
structure Cols (X:List Nat) (wx:World) (w:World) (M n:Nat) (P:Int→Option Nat) (q:Nat→List ODecl):Prop where
  map:IsMapI 3 w M n (ptrF P)
  ge:wx.heap.size≤M
  box:∀ x p,P x = some p→wx.heap.size≤p∧p≠M∧ColBox X wx w p (findD (q 0) x) (findD (q 1) x) (findD (q 2) x)
  inj:∀ x y p,P x = some p→P y = some p→x = y
  no:∀ x,P x = none→∀ k,k < 3→findD (q k) x = none
  low:Below wx.heap.size wx w
theorem Cols.below {X:List Nat} {wx w w':World} {M n:Nat} {P:Int→Option Nat} {q:Nat→List ODecl} (h:Cols X wx w M n P q) (m:Bw w w'):Cols X wx w' M n P q:=by
 refine ⟨h.map.below m,h.ge,fun x p hp => ?_,h.inj,h.no,h.low.trans (m.mono h.low.size)⟩;obtain ⟨h1,h2,⟨⟨v0,v1,v2,h3,h4⟩⟩⟩:=h.box x p hp;exact ⟨h1,h2,⟨⟨v0,v1,v2,h3.below m,h4⟩⟩⟩
theorem Cols.made (X:List Nat) (wx w:World) (h:Bw wx w):Cols X wx (w.alloc (.map #[] 0)) w.heap.size 0 (fun _ => none) (fun _ => []):=
 ⟨IsMapI.made _ _,h.size,fun _ _ hp => by simp at hp,fun _ _ _ hp => by simp at hp,fun _ _ _ _ => rfl,h.trans ((qalloc w _).mono h.size)⟩
def qAdd (q:Nat→List ODecl) (k:Nat) (d:ODecl):Nat→List ODecl:=fun j => if j = k then q j ++ [d] else q j
theorem findD_snoc (l:List ODecl) (d:ODecl) (x:Int):findD (l ++ [d]) x = (findD l x).or (if d.id = x then some d else none):=by
 unfold findD;rw [List.find?_append]
 congr 1
 by_cases h:d.id = x
 ·rw [if_pos h,List.find?_cons,beq_iff_eq.2 h]
 ·rw [if_neg h,List.find?_cons,beq_false_of_ne h];rfl
theorem findD_snoc_ne {l:List ODecl} {d:ODecl} {x:Int} (h:x≠d.id):findD (l ++ [d]) x = findD l x:=by
 rw [findD_snoc,if_neg (fun e => h e.symm),Option.or_none]
theorem findD_snoc_eq {l:List ODecl} {d:ODecl} (h:findD l d.id = none):findD (l ++ [d]) d.id = some d:=by
 rw [findD_snoc,h,if_pos rfl];rfl
theorem qAdd_ne {q:Nat→List ODecl} {k:Nat} {d:ODecl} {x:Int} (h:x≠d.id) (j:Nat):findD (qAdd q k d j) x = findD (q j) x:=by
 unfold qAdd;split
 ·exact findD_snoc_ne h
 ·rfl
theorem qAdd_at {q:Nat→List ODecl} {k:Nat} {d:ODecl} (h:findD (q k) d.id = none) (j:Nat):findD (qAdd q k d j) d.id = if j = k then some d else findD (q j) d.id:=by
 unfold qAdd;split
 ·rename_i e;subst e;exact findD_snoc_eq h
 ·rfl
def pAdd (P:Int→Option Nat) (x:Int) (p:Nat):Int→Option Nat:=fun y => if y = x then some p else P y
theorem ptrF_add (P:Int→Option Nat) (x:Int) (p:Nat):(fun y => if y = x then some (Value.pointer (some ⟨p,0,.none⟩)) else ptrF P y) = ptrF (pAdd P x p):=by
 funext y
 unfold ptrF pAdd;split <;> rfl
theorem Cols.fresh {X:List Nat} {wx w w1 w2:World} {M n p:Nat} {P:Int→Option Nat} {q:Nat→List ODecl} {x:Int} (h:Cols X wx w M n P q) (hP:P x = none) (hp:w.heap.size≤p)
    (hb:CBox w1 p 127 #[.slice none 0 0,.slice none 0 0,.slice none 0 0]) (h1:Below w.heap.size w w1)
    (hm:IsMapI 3 w2 M (n + 1) (fun y => if y = x then some (.pointer (some ⟨p,0,.none⟩)) else ptrF P y)) (hg:w1.grownBy w2 (some M)) :
    Cols X wx w2 M (n + 1) (pAdd P x p) q:=by
  rw [ptrF_add] at hm
  have hM:=h.map.lt
  have hmod:Mod [M] w1 w2:=mod_of_grown hg
  have hge:=h.low.size
  have old:∀ y r,P y = some r→wx.heap.size≤r∧r≠M∧ColBox X wx w2 r (findD (q 0) y) (findD (q 1) y) (findD (q 2) y)∧r < w.heap.size:=fun y r hr => by
    obtain ⟨a1,a2,⟨⟨v0,v1,v2,a3,a4⟩⟩⟩:=h.box y r hr
    exact ⟨a1,a2,⟨⟨v0,v1,v2,(a3.below h1).mod hmod (by simpa using a2),a4⟩⟩,a3.lt⟩
  refine ⟨hm,h.ge,fun y r hr => ?_,fun y z r hy hz => ?_,fun y hy k hk => ?_,?_⟩
  · unfold pAdd at hr
    split at hr
    · rename_i e;subst e
      injection hr with hr;subst hr
      have h0:=fun k hk => h.no y hP k hk
      rw [h0 0 (by omega),h0 1 (by omega),h0 2 (by omega)]
      exact ⟨by omega,by omega,⟨⟨_,_,_,hb.mod hmod (by simp;omega),Col.none _ _,Col.none _ _,Col.none _ _⟩⟩⟩
    · obtain ⟨a1,a2,a3,_⟩:=old y r hr
      exact ⟨a1,a2,a3⟩
  · unfold pAdd at hy hz
    split at hy <;> split at hz
    · rename_i e1 e2;rw [e1,e2]
    · injection hy with hy;have:=(old z r hz).2.2.2;omega
    · injection hz with hz;have:=(old y r hy).2.2.2;omega
    · exact h.inj y z r hy hz
  · unfold pAdd at hy
    split at hy
    · cases hy
    · exact h.no y hy k hk
  · exact (h.low.trans (h1.mono hge)).trans (hmod.upto (Nat.le_trans hge h1.size) (fun k hk => by have:=h.ge;simp at hk;omega))
theorem Cols.put {X:List Nat} {wx w:World} {M n p k:Nat} {P:Int→Option Nat} {q:Nat→List ODecl} {d:ODecl} {v:Value} (h:Cols X wx w M n P q) (hP:P d.id = some p) (hk:k < 3) (hn:findD (q k) d.id = none) (hv:Col wx X (some d) v) :
    Cols X wx (w.setCell ⟨p,k,.none⟩ v) M n P (qAdd q k d):=by
  have hmod:Mod [p] w (w.setCell ⟨p,k,.none⟩ v):=(Mod.refl [p] w).setCell (by simp) v
  obtain ⟨b1,b2,⟨⟨u0,u1,u2,b3,c0,c1,c2⟩⟩⟩:=h.box d.id p hP
  refine ⟨h.map.mod hmod (by simpa using fun e => b2 e.symm),h.ge,fun y r hr => ?_,h.inj,fun y hy j hj => ?_,h.low.trans (hmod.upto h.low.size (fun j hj => by simp at hj;omega))⟩
  · by_cases hy:y = d.id
    · subst hy
      rw [hP] at hr
      injection hr with hr;subst hr
      refine ⟨b1,b2,?_⟩
      rw [qAdd_at hn,qAdd_at hn,qAdd_at hn]
      have hset:=b3.set k v
      match k,hk with
      | 0,_ => exact ⟨⟨_,_,_,hset,hv,c1,c2⟩⟩
      | 1,_ => exact ⟨⟨_,_,_,hset,c0,hv,c2⟩⟩
      | 2,_ => exact ⟨⟨_,_,_,hset,c0,c1,hv⟩⟩
    · obtain ⟨a1,a2,⟨⟨v0,v1,v2,a3,a4⟩⟩⟩:=h.box y r hr
      refine ⟨a1,a2,?_⟩
      rw [qAdd_ne hy,qAdd_ne hy,qAdd_ne hy]
      exact ⟨⟨v0,v1,v2,a3.mod hmod (by simpa using fun e => hy (h.inj y d.id r hr (by rw [hP,e]))),a4⟩⟩
  · have hy':y≠d.id:=fun e => by rw [e,hP] at hy;cases hy
    rw [qAdd_ne hy']
    exact h.no y hy j hj
def Met (P:Int→Option Nat) (q:Nat→List ODecl):Prop:=∀ x p,P x = some p→∃ k,k < 3∧(findD (q k) x).isSome = true
theorem Met.add {P P':Int→Option Nat} {q:Nat→List ODecl} {k:Nat} {d:ODecl} (h:Met P q) (hk:k < 3) (hn:findD (q k) d.id = none) (hP:∀ x,x≠d.id→P' x = P x):Met P' (qAdd q k d):=by
 intro x p hp
 by_cases hx:x = d.id
 ·subst hx
  exact ⟨k,hk,by rw [qAdd_at hn,if_pos rfl];rfl⟩
 ·rw [hP x hx] at hp
  obtain ⟨j,hj,e⟩:=h x p hp;exact ⟨j,hj,by rw [qAdd_ne hx];exact e⟩
theorem col_one {w:World} {X:List Nat} {l:List ODecl} {a:Option Addr} {cap i:Nat} {d:ODecl} (h:Reads w X (declsT l) (.slice a l.length cap)) (hi:l[i]? = some d) (hs:SmD d) (hn:nodesN d.body≤1000000) :
  ∃ b o,a = some ⟨b,o,.none⟩∧b < w.heap.size∧Col w X (some d) (.slice (some ⟨b,o + i * 11,.none⟩) 1 1):=by
 obtain ⟨b,o,rfl,hb,hr⟩:=reads_one h hi
 exact ⟨b,o,rfl,hb,_,1,rfl,by omega,hr,fun d' e => by injection e with e;subst e;exact ⟨hs,hn⟩⟩
def tri {α:Type} (x y z:α):Nat→α
 | 0 => x
 | 1 => y
 | _ => z
def qJ (b l r:OMod) (k j:Nat):Nat→List ODecl:=fun m => if m < k then (tri b l r m).decls else if m = k then (tri b l r m).decls.take j else []
theorem qJ_zero (b l r:OMod):qJ b l r 0 0 = fun _ => []:=by
 funext m
 unfold qJ;rw [if_neg (Nat.not_lt_zero _)];split
 ·rw [List.take_zero]
 ·rfl
theorem qJ_next {b l r:OMod} {k j:Nat} {d:ODecl} (h:(tri b l r k).decls[j]? = some d):qAdd (qJ b l r k j) k d = qJ b l r k (j + 1):=by
 funext m
 unfold qAdd qJ
 by_cases hm:m = k
 ·subst hm
  rw [if_pos rfl,if_neg (Nat.lt_irrefl _),if_pos rfl,if_neg (Nat.lt_irrefl _),if_pos rfl,take_at h]
 ·rw [if_neg hm,if_neg hm,if_neg hm]
theorem qJ_end {b l r:OMod} {k j:Nat} (h:(tri b l r k).decls.length≤j):qJ b l r k j = qJ b l r (k + 1) 0:=by
 funext m
 unfold qJ
 by_cases h1:m < k
 ·rw [if_pos h1,if_pos (by omega)]
 ·rw [if_neg h1]
  by_cases h2:m = k
  ·subst h2
   rw [if_pos rfl,if_pos (by omega),List.take_of_length_le h]
  ·rw [if_neg h2,if_neg (by omega)]
   split
   ·rw [List.take_zero]
   ·rfl
theorem qJ_none {b l r:OMod} {k j:Nat} {d:ODecl} (hp:(tri b l r k).decls.Pairwise fun a b => a.id < b.id) (h:(tri b l r k).decls[j]? = some d):findD (qJ b l r k j k) d.id = none:=by
 unfold qJ;rw [if_neg (Nat.lt_irrefl _),if_pos rfl];unfold findD;rw [List.find?_eq_none];intro e he;obtain ⟨i,hi,rfl⟩:=List.mem_iff_getElem.1 he;rw [List.length_take] at hi;obtain ⟨hj,rfl⟩:=List.getElem?_eq_some_iff.1 h;rw [List.getElem_take];have:=List.pairwise_iff_getElem.1 hp i j (by omega) hj (by omega);simp;omega
theorem qJ_all (b l r:OMod):∀ m,m < 3→qJ b l r 3 0 m = (tri b l r m).decls:=fun m hm => by unfold qJ;rw [if_pos hm]
theorem cols_ids {X:List Nat} {wx w:World} {M n:Nat} {P:Int→Option Nat} {b l r:OMod} (h:Cols X wx w M n P (qJ b l r 3 0)) (hm:Met P (qJ b l r 3 0)):∀ x,x∈idsM b l r↔(ptrF P x).isSome = true:=by
  intro x
  rw [(idsM_spec b l r).2 x]
  have key:∀ (ds:List ODecl),(∃ d∈ds,d.id = x)↔(findD ds x).isSome = true:=fun ds => by
    unfold findD
    rw [List.find?_isSome]
    constructor
    · rintro ⟨d,h1,h2⟩;exact ⟨d,h1,by simpa using h2⟩
    · rintro ⟨d,h1,h2⟩;exact ⟨d,h1,by simpa using h2⟩
  rw [key,key,key]
  have e0:=qJ_all b l r 0 (by omega)
  have e1:=qJ_all b l r 1 (by omega)
  have e2:=qJ_all b l r 2 (by omega)
  constructor
  · intro h0
    cases hP:P x with
    | some p => unfold ptrF;rw [hP];rfl
    | none =>
      have n0:=h.no x hP 0 (by omega)
      have n1:=h.no x hP 1 (by omega)
      have n2:=h.no x hP 2 (by omega)
      rw [e0] at n0;rw [e1] at n1;rw [e2] at n2
      have m0:findD b.decls x = none:=n0
      have m1:findD l.decls x = none:=n1
      have m2:findD r.decls x = none:=n2
      rw [m0,m1,m2] at h0
      simp at h0
  · intro h0
    cases hP:P x with
    | none => unfold ptrF at h0;rw [hP] at h0;cases h0
    | some p =>
      obtain ⟨k,hk,e⟩:=hm x p hP
      rw [qJ_all b l r k hk] at e
      match k,hk with
      | 0,_ => exact .inl e
      | 1,_ => exact .inr (.inl e)
      | 2,_ => exact .inr (.inr e)
theorem Cols.lt {X:List Nat} {wx w:World} {M n p:Nat} {P:Int→Option Nat} {q:Nat→List ODecl} {x:Int} (h:Cols X wx w M n P q) (hp:P x = some p):p < w.heap.size:=by
 obtain ⟨_,_,⟨⟨_,_,_,h3,_⟩⟩⟩:=h.box x p hp;exact h3.lt
theorem ptr_get (P:Int→Option Nat) (x:Int):(ptrF P x).getD (.pointer none) = .pointer ((P x).map fun p => ⟨p,0,.none⟩):=by
 unfold ptrF
 cases P x <;> rfl
theorem ModIn.fewer {X Y:List Nat} {w:World} {m:OMod} {au:Option Addr} {cu:Nat} {ad:Option Addr} {cd:Nat} (h:ModIn w X m au cu ad cd) (hs:∀ k,k∈Y→k∈X):ModIn w Y m au cu ad cd:=⟨h.uses.fewer hs,h.decls.fewer hs,h.hu1,h.hu2,h.hd1,h.hd2⟩
theorem ModIn.free {X:List Nat} {w:World} {m:OMod} {au:Option Addr} {cu:Nat} {ad:Option Addr} {cd:Nat} (h:ModIn w X m au cu ad cd):ModIn w [] m au cu ad cd:=h.fewer (by simp)
theorem ModIn.more {X:List Nat} {w:World} {m:OMod} {au:Option Addr} {cu:Nat} {ad:Option Addr} {cd k:Nat} (h:ModIn w X m au cu ad cd) (hk:w.heap.size≤k):ModIn w (k :: X) m au cu ad cd:=⟨h.uses.more hk,h.decls.more hk,h.hu1,h.hu2,h.hd1,h.hd2⟩
theorem ModIn.mod {X:List Nat} {w w':World} {m:OMod} {au:Option Addr} {cu:Nat} {ad:Option Addr} {cd:Nat} (h:ModIn w X m au cu ad cd) (k:Mod X w w'):ModIn w' X m au cu ad cd:=⟨h.uses.mod k,h.decls.mod k,h.hu1,h.hu2,h.hd1,h.hd2⟩
theorem Mod.after {X Y:List Nat} {a b c:World} (h:Mod X a b) (k:Mod Y b c) (hy:∀ g,g∈Y→a.heap.size≤g):Mod X a c:=
 ⟨k.os.trans h.os,k.tape.trans h.tape,k.output.trans h.output,Nat.le_trans h.size k.size,fun j hj hx => (k.block j (Nat.lt_of_lt_of_le hj h.size) (fun hY => absurd (hy j hY) (by omega))).trans (h.block j hj hx)⟩
theorem declL_one (d:ODecl) (an:Option Addr) (cn:Nat) (sa:Option Addr) (cs:Nat):∀ u∈declL d an cn sa cs,u.oneCell' = true:=by
 intro u hu;unfold declL at hu;simp only [List.mem_cons,List.not_mem_nil,or_false] at hu
 rcases hu with rfl | rfl | rfl | rfl | rfl | rfl | rfl | rfl | rfl | rfl | rfl <;> rfl
theorem wpList_decl {ops:Array Oper} {rest:List Oper} {o:Oper} {a:Act} {Q:Exit→Act→World→Prop} (hgd:o.guard = none) (s x:Operand)
  (ho:o.op = .call { callee:=.builtin .append,args:=#[s,x],argTypes:=#[33,33] }) {w:World} {X:List Nat} {base:Nat} {v:Value} {L:List ODecl} (hs:a.eval s = v) (hown:OwnT w X base 69 11 declT v L)
  {B:Nat} {d:ODecl} {an:Option Addr} {cn:Nat} {sa:Option Addr} {cs:Nat} (hx:a.eval x = .slice (some ⟨B,0,none⟩) 1 1) (hbox:CBox w B 69 (declL d an cn sa cs).toArray) (hd:DecX w (v.ownBlock.toList ++ X) d an cn sa cs) (hL:L.length≤1000000) (hbase:base≤w.heap.size)
  (K:∀ v' w',OwnT w' X base 69 11 declT v' (L ++ [d])→Mod v.ownBlock.toList w w'→(∃ a c,v' = .slice a (L ++ [d]).length c)→(∀ b,v'.ownBlock = some b→v.ownBlock = some b∨b = w.heap.size)→wpList Tryz.prog ops Q rest (a.put o.dst v') w'):wpList Tryz.prog ops Q (o :: rest) a w:=by
 obtain ⟨i0,z,hi,hz0,hzs,hz1,hz2⟩:=info_parts' infoDecl;obtain ⟨xs,hrowo,hxr⟩:=hown
 have hrow:IsRow w 11 (.slice (some ⟨B,0,none⟩) 1 1) 1 (declL d an cn sa cs):=⟨rfl,some ⟨B,0,none⟩,1,rfl,Nat.le_refl _,by unfold maxLen;omega,fun _ => ⟨B,0,rfl,hbox.lt,fun j q hj => by
  rw [Nat.zero_add];exact hbox.cell (i:=j) (v:=q) (by rw [← Array.getElem?_toList];exact hj)⟩⟩
 refine wpList_append_row hgd s x 33 ho base 69 i0 z 11 136 Tryz.underlying33 hi hz0 hz1 hz2 hzs (by decide) v L.length xs hs hrowo (.slice (some ⟨B,0,none⟩) 1 1) 1 (declL d an cn sa cs) hx hrow (declL_one d an cn sa cs) (by unfold maxLen;omega) (by omega) hbase ?_;intro v' w' ho' hg' hb';have ho2:=OwnT.grown (f:=declT) (a:=d) hrowo hxr (cells_decl hd.names hd.subs) ho' hg' hb';refine K v' w' ho2 (mod_of_grown hg') ?_ (fun b hb => ?_)
 ·obtain ⟨a,c,e,_⟩:=ho2.val
  exact ⟨a,c,e⟩
 ·rcases hb' with hb' | hb'
  ·rw [hb'] at hb;exact .inl hb
  ·rw [hb'] at hb;injection hb with hb;exact .inr hb.symm
theorem OneX.owned {w:World} {X:List Nat} {od:Option ODecl} {a:Option Addr} {c:Nat} (h:OneX w X od a c) (v:Value) (hv:∀ g,v.ownBlock = some g→w.heap.size≤g):OneX w (v.ownBlock.toList ++ X) od a c:=by
 cases hb:v.ownBlock with
 | none => exact h
 | some g => exact h.more (hv g hb)
theorem Cols.three {X:List Nat} {wx w:World} {M n p:Nat} {P:Int→Option Nat} {b l r:OMod} {x:Int} (h:Cols X wx w M n P (qJ b l r 3 0)) (hp:P x = some p) :
    ∃ ab cb al cl ar cr,CBox w p 127 #[.slice ab (findD b.decls x).toList.length cb,.slice al (findD l.decls x).toList.length cl,.slice ar (findD r.decls x).toList.length cr]∧cl≤9223372036854775807∧cr≤9223372036854775807 ∧
      OneX wx X (findD b.decls x) ab cb∧OneX wx X (findD l.decls x) al cl∧OneX wx X (findD r.decls x) ar cr:=by
  obtain ⟨_,_,⟨⟨v0,v1,v2,hb,⟨a0,c0,e0,_,h0⟩,⟨a1,c1,e1,n1,h1⟩,⟨a2,c2,e2,n2,h2⟩⟩⟩⟩:=h.box x p hp
  subst e0;subst e1;subst e2
  have q0:qJ b l r 3 0 0 = b.decls:=qJ_all b l r 0 (by omega)
  have q1:qJ b l r 3 0 1 = l.decls:=qJ_all b l r 1 (by omega)
  have q2:qJ b l r 3 0 2 = r.decls:=qJ_all b l r 2 (by omega)
  rw [q0] at h0 hb;rw [q1] at h1 hb;rw [q2] at h2 hb
  exact ⟨a0,c0,a1,c1,a2,c2,hb,n1,n2,h0,h1,h2⟩
theorem mHas_true {ob ol or:Option ODecl} (h:mHas ob ol or = true):mergeD ob ol or = some (mOut ob ol or):=by
 unfold mHas at h;rw [Bool.and_eq_true,decide_eq_true_eq] at h;unfold mOut;rw [if_pos h.1];obtain ⟨d,hd⟩:=Option.isSome_iff_exists.1 h.2;rw [hd];rfl
theorem mHas_false {ob ol or:Option ODecl} (h:mHas ob ol or = false) (h0:mergeDErr ob ol or = 0):mergeD ob ol or = none:=by
 unfold mHas at h;rw [h0] at h
 simpa using h
theorem declsM_next {b l r:List ODecl} {ids:List Int} {i:Nat} {x:Int} (h:ids[i]? = some x):declsM b l r (ids.take (i + 1)) = declsM b l r (ids.take i) ++ (mergeD (findD b x) (findD l x) (findD r x)).toList:=by
 unfold declsM;rw [take_at h,List.filterMap_append]
 congr 1
 all_goals (cases hm:mergeD (findD b x) (findD l x) (findD r x) <;> simp [hm])
theorem declsErr_first {b l r:List ODecl}:∀ {ids:List Int} {i:Nat} {x:Int},ids[i]? = some x→(∀ j y,j < i→ids[j]? = some y→mergeDErr (findD b y) (findD l y) (findD r y) = 0)→mergeDErr (findD b x) (findD l x) (findD r x)≠0→declsErrM b l r ids = mergeDErr (findD b x) (findD l x) (findD r x)
 | [],_,_,h,_,_ => by simp at h
 | y :: s,0,x,h,_,hn => by
  simp only [List.getElem?_cons_zero,Option.some.injEq] at h
  subst h;rw [declsErrM,if_neg hn]
 | y :: s,i + 1,x,h,h0,hn => by
  rw [declsErrM,if_pos (h0 0 y (by omega) rfl)];exact declsErr_first (by simpa using h) (fun j z hj hz => h0 (j + 1) z (by omega) (by simpa using hz)) hn
theorem declsErr_all {b l r:List ODecl} {ids:List Int} (h:∀ (j:Nat) (y:Int),ids[j]? = some y→mergeDErr (findD b y) (findD l y) (findD r y) = 0):declsErrM b l r ids = 0:=
 declsErr_zero (fun i hi => by obtain ⟨j,hj⟩:=List.mem_iff_getElem?.1 hi;exact h j i hj)
theorem declsM_len (b l r:List ODecl) (ids:List Int):(declsM b l r ids).length≤ids.length:=List.length_filterMap_le _ _
end Go.Proofs.YtdpnfkjafhbndaaGreatDoor

