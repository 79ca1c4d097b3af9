/- Plain: a conflict of a module gives way to a side (chapter 33). Plain: settling a conflict (chapter 33): what is valid stays valid, and fewer conflicts are left. No program in sight. Plain: a declaration that one side has removed and the other one has changed (chapter 33). No program in sight. -/
import Derived.Test.YtdpnfkjafhbndaaGreatDoorSSA
import Derived.Test.YtdpnfkjafhbndaaGreatDoorSNC
import Derived.Test.YtdpnfkjafhbndaaGreatDoorSShS
namespace Go.Proofs.YtdpnfkjafhbndaaGreatDoor
def itoaB (n:Int):ByteArray:=⟨(Lib.itoa n).toArray⟩
def settleD (d:ODecl) (s:OSpot) (side:Int):ODecl × Bool × Int:=
  if s.kind = 1 then ({ d with names:=[(d.names[side.toNat]?).getD ⟨#[]⟩] },true,if nmS ((d.names[side.toNat]?).getD ⟨#[]⟩) then 0 else 6)
  else if s.kind = 2 then ({ d with body:=setOut d.body s.pos side },true,setErr d.body s.pos side)
  else if side = 2 then (d,false,0)
  else if s.kind = 3 then ({ d with doubt:=false },true,0)
  else ({ d with names:=[(d.names[0]?).getD ⟨#[]⟩ ++ itoaB d.id] },true,if nmS ((d.names[0]?).getD ⟨#[]⟩ ++ itoaB d.id) then 0 else 6)
def settleL (s:OSpot) (side:Int):List ODecl→List ODecl
  | [] => []
  | d :: l => if d.id = s.id then (if (settleD d s side).2.2 = 0 then (if (settleD d s side).2.1 then (settleD d s side).1 :: settleL s side l else settleL s side l) else []) else d :: settleL s side l
def settleLErr (s:OSpot) (side:Int):List ODecl→Int
 | [] => 0
 | d :: l => if d.id = s.id∧(settleD d s side).2.2≠0 then (settleD d s side).2.2 else settleLErr s side l
def sideBad (s:OSpot) (side:Int):Bool:=decide (side < 0) || (decide (2 < side) || (decide (side = 1) && (decide (s.kind = 3) || decide (s.kind = 4))))
def hasSpot (m:OMod) (s:OSpot):Bool:=(spotsL m.label m.decls).any fun t => t.pack.data.toList == s.pack.data.toList && (t.kind == s.kind && (t.id == s.id && t.pos == s.pos))
def settleMErr (m:OMod) (s:OSpot) (side:Int):Int:=if modErr m≠0 then modErr m else if !(hasSpot m s) then 8 else if sideBad s side then 2 else settleLErr s side m.decls
def settleM (m:OMod) (s:OSpot) (side:Int):OMod:=if settleMErr m s side = 0 then ⟨m.label,m.uses,settleL s side m.decls⟩ else noMod
structure HasIt (d:ODecl) (s:OSpot) (side:Int):Prop where
  lo:0≤side
  hi:side≤2
  one:(s.kind = 3∨s.kind = 4)→side≠1
  kind:s.kind = 1∨s.kind = 2∨s.kind = 3∨s.kind = 4
  three:s.kind = 1→d.names.length = 3
  single:s.kind = 4→d.names.length = 1
  valid:namesErr d.names = 0
theorem settleL_append (s:OSpot) (side:Int):∀ a b:List ODecl,settleLErr s side a = 0→settleL s side (a ++ b) = settleL s side a ++ settleL s side b∧settleLErr s side (a ++ b) = settleLErr s side b
 | [],b,_ => ⟨by rw [settleL];rfl,rfl⟩
 | d :: a,b,h => by
  rw [settleLErr] at h;split at h
  ·rename_i h1;exact absurd h h1.2
  ·rename_i h1
   obtain ⟨h2,h3⟩:=settleL_append s side a b h;rw [List.cons_append];refine ⟨?_,by rw [settleLErr,if_neg h1];exact h3⟩;rw [settleL,settleL,h2]
   by_cases hd:d.id = s.id
   ·have he:(settleD d s side).2.2 = 0:=Classical.byContradiction fun h => h1 ⟨hd,h⟩
    rw [if_pos hd,if_pos he,if_pos hd,if_pos he];split <;> rfl
   ·rw [if_neg hd,if_neg hd];rfl
theorem mem_setXL (k:Nat):∀ (l:List Ex) (j:Nat) (y:Ex),y∈setXL k l j→y∈l∨∃ z∈l,∃ i,y = setX k z i
 | [],_,y,h => by rw [setXL] at h;cases h
 | x :: l,j,y,h => by
  rw [setXL] at h;split at h
  ·rcases List.mem_cons.1 h with rfl | h
   ·exact .inr ⟨x,List.mem_cons_self ..,j,rfl⟩
   ·exact .inl (List.mem_cons_of_mem _ h)
  ·rcases List.mem_cons.1 h with rfl | h
   ·exact .inl (List.mem_cons_self ..)
   ·rcases mem_setXL k l _ y h with h | ⟨z,hz,i,e⟩
    ·exact .inl (List.mem_cons_of_mem _ h)
    ·exact .inr ⟨z,List.mem_cons_of_mem _ hz,i,e⟩
theorem nodes_setXL (k:Nat):∀ (l:List Ex) (j:Nat),(∀ y∈l,∀ i,nodesN (setX k y i)≤nodesN y)→nodesL (setXL k l j)≤nodesL l
 | [],_,_ => by rw [setXL];exact Nat.le_refl _
 | x :: l,j,h => by
  rw [setXL];split
  ·rw [nodesL,nodesL];have:=h x (List.mem_cons_self ..) j;omega
  ·rw [nodesL,nodesL];have:=nodes_setXL k l (j - confX x) (fun y hy => h y (List.mem_cons_of_mem _ hy));omega
theorem depth_setXL (k:Nat):∀ (l:List Ex) (j:Nat),(∀ y∈l,∀ i,depthN (setX k y i)≤depthN y)→depthL (setXL k l j)≤depthL l
 | [],_,_ => by rw [setXL];exact Nat.le_refl _
 | x :: l,j,h => by
  rw [setXL];split
  ·rw [depthL,depthL];have:=h x (List.mem_cons_self ..) j;omega
  ·rw [depthL,depthL];have:=depth_setXL k l (j - confX x) (fun y hy => h y (List.mem_cons_of_mem _ hy));omega
theorem depthL_mem' {x:Ex}:∀ {l:List Ex},x∈l→depthN x≤depthL l
 | y :: l,h => by
  rw [depthL]
  rcases List.mem_cons.1 h with rfl | h
  ·omega
  ·have:=depthL_mem' h;omega
theorem subAt_mem {l:List Ex} {k:Nat} (h:k < l.length):subAt l k∈l:=by
 unfold subAt;rw [List.getElem?_eq_getElem h];exact List.getElem_mem h
theorem nodes_setX {k:Nat} (hk:k≤2) (x:Ex):∀ i,ValX x→nodesN (setX k x i)≤nodesN x:=by
 refine Ex.ind (P:=fun x => ∀ i,ValX x→nodesN (setX k x i)≤nodesN x) (fun x ih i hv => ?_) x;rw [setX_eq,nodesN_eq x];split
 ·rename_i h
  have h3:=hv.three h.1;have:=nodesL_mem (subAt_mem (l:=x.subs) (k:=k) (by omega));omega
 ·have:=nodes_setXL k x.subs (if x.kind = 15 then i - 1 else i) (fun y hy i => ih y hy i (hv.sub hy))
  rw [nodesN];omega
theorem depth_setX {k:Nat} (hk:k≤2) (x:Ex):∀ i,ValX x→depthN (setX k x i)≤depthN x:=by
 refine Ex.ind (P:=fun x => ∀ i,ValX x→depthN (setX k x i)≤depthN x) (fun x ih i hv => ?_) x;rw [setX_eq,depthN_eq x];split
 ·rename_i h
  have h3:=hv.three h.1;have:=depthL_mem' (subAt_mem (l:=x.subs) (k:=k) (by omega));omega
 ·have:=depth_setXL k x.subs (if x.kind = 15 then i - 1 else i) (fun y hy i => ih y hy i (hv.sub hy))
  rw [depthN];omega
theorem val_setX {k:Nat} (hk:k≤2) (x:Ex):∀ i,ValX x→ValX (setX k x i):=by
 refine Ex.ind (P:=fun x => ∀ i,ValX x→ValX (setX k x i)) (fun x ih i hv => ?_) x;rw [setX_eq];split
 ·rename_i h
  have h3:=hv.three h.1;exact hv.sub (subAt_mem (by omega))
 ·refine ValX.intro ?_ (fun y hy => ?_)
  ·have e:nodeErr (.mk x.kind x.name x.more x.num x.den (setXL k x.subs (if x.kind = 15 then i - 1 else i))) = nodeErr x:=nodeErr_head rfl rfl rfl rfl rfl (setXL_len k x.subs _)
   rw [e];exact hv.node
  ·rcases mem_setXL k _ _ y hy with hy | ⟨z,hz,j,rfl⟩
   ·exact hv.sub hy
   ·exact ih z hz j (hv.sub hz)
theorem exprErr_setX {k:Nat} (hk:k≤2) {x:Ex} (i:Nat) (h:exprErr x = 0):exprErr (setX k x i) = 0:=by
 obtain ⟨h1,h2,h3⟩:=exprErr_iff.1 h;have a1:=nodes_setX hk x i h3;have a2:=depth_setX hk x i h3;exact exprErr_iff.2 ⟨by omega,by omega,val_setX hk x i h3⟩
theorem any_setX {k:Nat} (hk:k≤2) {p:Ex→Bool} (hp:∀ x y:Ex,x.kind = y.kind→x.name = y.name→p x = p y) (x:Ex):∀ i,ValX x→anyX p x = false→anyX p (setX k x i) = false:=by
 refine Ex.ind (P:=fun x => ∀ i,ValX x→anyX p x = false→anyX p (setX k x i) = false) (fun x ih i hv h => ?_) x;rw [setX_eq];obtain ⟨h0,h1⟩:=anyX_false.1 h;split
 ·rename_i h
  have h3:=hv.three h.1;exact h1 _ (subAt_mem (by omega))
 ·refine anyX_false.2 ⟨(hp (.mk x.kind x.name x.more x.num x.den (setXL k x.subs (if x.kind = 15 then i - 1 else i))) x rfl rfl).trans h0,fun y hy => ?_⟩
  rcases mem_setXL k _ _ y hy with hy | ⟨z,hz,j,rfl⟩
  ·exact h1 y hy
  ·exact ih z hz j (hv.sub hz) (h1 z hz)
theorem free_setX {k:Nat} (hk:k≤2) (x:Ex):∀ i bd,ValX x→freeN x bd = []→freeN (setX k x i) bd = []:=by
 refine Ex.ind (P:=fun x => ∀ i bd,ValX x→freeN x bd = []→freeN (setX k x i) bd = []) (fun x ih i bd hv h => ?_) x;rw [freeN_eq] at h;rw [setX_eq];split
 ·rename_i h15
  have h3:=hv.three h15.1;rw [if_neg (by rw [h15.1];decide)] at h;unfold freeP at h;rw [List.drop_zero] at h
  have hb:∀ j,boundAt (.mk x.kind x.name x.more 0 0 []) j = []:=fun j => by
   unfold boundAt;show (if x.kind = 6 then _ else _) = _
   rw [h15.1,if_neg (by decide),if_neg (fun h => absurd (show (15:Int) = 8 from h.1) (by decide)),if_neg (fun h => absurd (show (15:Int) = 13 from h.1) (by decide))]
  have key:∀ (l:List Ex) (j:Nat),freeL l x.kind x.name x.more j bd = []→∀ y∈l,freeN y bd = []:=by
   intro l
   induction l with
   | nil => intro j _ y hy;cases hy
   | cons z l il =>
    intro j h y hy;rw [freeL,hb,List.append_nil,List.append_eq_nil_iff] at h
    rcases List.mem_cons.1 hy with rfl | hy
    ·exact h.1
    ·exact il _ h.2 y hy
  exact key _ _ h _ (subAt_mem (by omega))
 ·rw [freeN_eq]
  show (if x.kind = 3 then (if memS' x.name bd then [] else [x.name]) else freeP (.mk x.kind x.name x.more x.num x.den (setXL k x.subs (if x.kind = 15 then i - 1 else i))) bd 0) = []
  by_cases h3:x.kind = 3
  ·rw [if_pos h3] at h ⊢
   exact h
  ·rw [if_neg h3] at h ⊢
   unfold freeP at h ⊢;rw [List.drop_zero] at h ⊢;show freeL (setXL k x.subs (if x.kind = 15 then i - 1 else i)) x.kind x.name x.more 0 bd = []
   have key:∀ (l:List Ex) (n j:Nat),(∀ y∈l,∀ i bd,ValX y→freeN y bd = []→freeN (setX k y i) bd = [])→(∀ y∈l,ValX y)→freeL l x.kind x.name x.more n bd = []→freeL (setXL k l j) x.kind x.name x.more n bd = []:=by
    intro l
    induction l with
    | nil => intro n j _ _ _;rw [setXL,freeL]
    | cons z l il =>
     intro n j h1 h2 h;rw [freeL,List.append_eq_nil_iff] at h;rw [setXL];split
     ·rw [freeL,List.append_eq_nil_iff]
      exact ⟨h1 z (List.mem_cons_self ..) _ _ (h2 z (List.mem_cons_self ..)) h.1,h.2⟩
     ·rw [freeL,List.append_eq_nil_iff]
      exact ⟨h.1,il _ _ (fun y hy => h1 y (List.mem_cons_of_mem _ hy)) (fun y hy => h2 y (List.mem_cons_of_mem _ hy)) h.2⟩
   exact key _ _ _ ih (fun y hy => hv.sub hy) h
theorem names_one {s:ByteArray} (h:nmS s = true):namesErr [s] = 0:=by
 unfold namesErr;rw [if_neg (by simp),nz_zero];intro k hk;have:k = 0:=by simpa using hk
 subst this;unfold nmAt badNm;have e:sAt [s] 0 = s:=rfl;rw [e,h];rfl
theorem settleD_id (d:ODecl) (s:OSpot) (k:Int):(settleD d s k).1.id = d.id:=by
 unfold settleD;split
 ·rfl
 ·split
  ·rfl
  ·split
   ·rfl
   ·split <;> rfl
structure Mine (d:ODecl) (s:OSpot):Prop where
  kind:s.kind = 1∨s.kind = 2∨s.kind = 3∨s.kind = 4
  three:s.kind = 1→d.names.length = 3
  pos:s.kind = 2→0≤s.pos∧s.pos < (confX d.body:Int)
  doubt:s.kind = 3→d.doubt = true
  single:s.kind = 4→d.names.length = 1
theorem setOut_eq {x:Ex} {i s:Int} (h:setErr x i s = 0):setOut x i s = setX s.toNat x i.toNat:=by
 unfold setOut;rw [if_pos h]
theorem settleD_ok {label:ByteArray} {d:ODecl} {s:OSpot} {k:Int} (D:DeclOk label d) (hs:0≤k∧k≤2) (he:(settleD d s k).2.2 = 0) (hr:(settleD d s k).2.1 = true):DeclOk label (settleD d s k).1:=by
 have nm:∀ t:ByteArray,(if nmS t then (0:Int) else 6) = 0→namesErr [t] = 0:=fun t h => by
  cases hn:nmS t with
  | true => exact names_one hn
  | false => rw [hn] at h;exact absurd h (by decide)
 unfold settleD at he hr ⊢
 by_cases h1:s.kind = 1
 ·rw [if_pos h1] at he hr ⊢
  exact ⟨D.id1,D.id2,D.k1,D.k2,nm _ he,D.body,D.sym,D.free,D.refs⟩
 ·rw [if_neg h1] at he hr ⊢
  by_cases h2:s.kind = 2
  ·rw [if_pos h2] at he hr ⊢
   have he:setErr d.body s.pos k = 0:=he;have hv:=exprErr_val D.body;have hk:k.toNat≤2:=by omega
   refine ⟨D.id1,D.id2,D.k1,D.k2,D.names,?_,?_,?_,?_⟩
   ·show exprErr (setOut d.body s.pos k) = 0
    rw [setOut_eq he];exact exprErr_setX hk _ D.body
   ·show anyX _ (setOut d.body s.pos k) = false
    rw [setOut_eq he];exact any_setX hk (kindP_head 4) _ _ hv D.sym
   ·show freeN (setOut d.body s.pos k) [] = []
    rw [setOut_eq he];exact free_setX hk _ _ _ hv D.free
   ·show anyX _ (setOut d.body s.pos k) = false
    rw [setOut_eq he];exact any_setX hk (refP_head label) _ _ hv D.refs
  ·rw [if_neg h2] at he hr ⊢
   by_cases h3:k = 2
   ·rw [if_pos h3] at hr;cases hr
   ·rw [if_neg h3] at he hr ⊢
    by_cases h4:s.kind = 3
    ·rw [if_pos h4]
     exact ⟨D.id1,D.id2,D.k1,D.k2,D.names,D.body,D.sym,D.free,D.refs⟩
    ·rw [if_neg h4] at he ⊢
     exact ⟨D.id1,D.id2,D.k1,D.k2,nm _ he,D.body,D.sym,D.free,D.refs⟩
def setF (s:OSpot) (side:Int) (d:ODecl):Option ODecl:=if d.id = s.id then (if (settleD d s side).2.1 then some (settleD d s side).1 else none) else some d
theorem settleL_map (s:OSpot) (side:Int):∀ l:List ODecl,settleLErr s side l = 0→settleL s side l = l.filterMap (setF s side)∧∀ d∈l,d.id = s.id→(settleD d s side).2.2 = 0
 | [],_ => ⟨by rw [settleL];rfl,fun d hd => by cases hd⟩
 | d :: l,h => by
  rw [settleLErr] at h;split at h
  ·rename_i h1;exact absurd h h1.2
  ·rename_i h1
   obtain ⟨ih1,ih2⟩:=settleL_map s side l h;have h0:d.id = s.id→(settleD d s side).2.2 = 0:=fun e => Classical.byContradiction fun h => h1 ⟨e,h⟩;refine ⟨?_,fun e he hid => ?_⟩
   ·rw [settleL,List.filterMap_cons,ih1]
    unfold setF
    by_cases hd:d.id = s.id
    ·rw [if_pos hd,if_pos hd,if_pos (h0 hd)]
     cases (settleD d s side).2.1 <;> rfl
    ·rw [if_neg hd,if_neg hd]
   ·rcases List.mem_cons.1 he with rfl | he
    ·exact h0 hid
    ·exact ih2 e he hid
theorem spotsD_mine {label:ByteArray} {prev:List ODecl} {d:ODecl} {s:OSpot} (h:s∈spotsD label prev d):s.id = d.id∧s.pack = label∧Mine d s:=by
 unfold spotsD at h;simp only [List.mem_append] at h
 rcases h with ((h | h) | h) | h
 ·split at h
  ·rename_i h3
   have e:=List.mem_singleton.1 h;subst e;exact ⟨rfl,rfl,.inl rfl,fun _ => h3,fun e => absurd (show (1:Int) = 2 from e) (by decide),fun e => absurd (show (1:Int) = 3 from e) (by decide),fun e => absurd (show (1:Int) = 4 from e) (by decide)⟩
  ·cases h
 ·obtain ⟨i,hi,e⟩:=List.mem_map.1 h
  subst e;have:=List.mem_range.1 hi;exact ⟨rfl,rfl,.inr (.inl rfl),fun e => absurd (show (2:Int) = 1 from e) (by decide),fun _ => ⟨by show (0:Int)≤(i:Int);omega,by show (i:Int) < (confX d.body:Int);omega⟩,fun e => absurd (show (2:Int) = 3 from e) (by decide),fun e => absurd (show (2:Int) = 4 from e) (by decide)⟩
 ·split at h
  ·rename_i h3
   have e:=List.mem_singleton.1 h;subst e;exact ⟨rfl,rfl,.inr (.inr (.inl rfl)),fun e => absurd (show (3:Int) = 1 from e) (by decide),fun e => absurd (show (3:Int) = 2 from e) (by decide),fun _ => h3,fun e => absurd (show (3:Int) = 4 from e) (by decide)⟩
  ·cases h
 ·split at h
  ·rename_i h3
   have e:=List.mem_singleton.1 h;subst e;unfold clashB at h3;rw [Bool.and_eq_true] at h3;exact ⟨rfl,rfl,.inr (.inr (.inr rfl)),fun e => absurd (show (4:Int) = 1 from e) (by decide),fun e => absurd (show (4:Int) = 2 from e) (by decide),fun e => absurd (show (4:Int) = 3 from e) (by decide),fun _ => of_decide_eq_true h3.1⟩
  ·cases h
theorem mem_spots {label:ByteArray} {ds:List ODecl} {s:OSpot}:s∈spotsL label ds↔∃ i d,ds[i]? = some d∧s∈spotsD label (ds.take i) d:=by
 unfold spotsL spotsTo;rw [List.mem_flatMap]
 constructor
 ·rintro ⟨i,hi,h⟩
  have hi:=List.mem_range.1 hi;rw [dAt_of (List.getElem?_eq_getElem hi)] at h;exact ⟨i,_,List.getElem?_eq_getElem hi,h⟩
 ·rintro ⟨i,d,hd,h⟩
  refine ⟨i,List.mem_range.2 (List.getElem?_eq_some_iff.1 hd).1,?_⟩;rw [dAt_of hd];exact h
theorem has_iff {m:OMod} {s:OSpot}:hasSpot m s = true↔s∈spotsL m.label m.decls:=by
 unfold hasSpot;rw [List.any_eq_true]
 constructor
 ·rintro ⟨t,ht,h⟩
  simp only [Bool.and_eq_true,beq_iff_eq] at h
  obtain ⟨h1,h2,h3,h4⟩:=h
  have e:t = s:=by
   cases t;cases s
   have:=ba_eq h1;simp only at this h2 h3 h4
   rw [this,h2,h3,h4]
  rw [← e];exact ht
 ·intro h
  exact ⟨s,h,by simp⟩
theorem spot_mine {m:OMod} (V:ValM m) {s:OSpot} (h:s∈spotsL m.label m.decls):(∃ d∈m.decls,d.id = s.id)∧s.pack = m.label∧∀ d∈m.decls,d.id = s.id→Mine d s:=by
  obtain ⟨i,d,hd,hs⟩:=mem_spots.1 h
  obtain ⟨h1,h2,h3⟩:=spotsD_mine hs
  have hm:=List.mem_of_getElem? hd
  refine ⟨⟨d,hm,h1.symm⟩,h2,fun e he hid => ?_⟩
  have e1:=findD_of V.ids hm
  have e2:=findD_of V.ids he
  rw [hid,h1,e1] at e2
  injection e2 with e2
  rw [← e2];exact h3
theorem Mine.has {d:ODecl} {s:OSpot} (M:Mine d s) {k:Int} (hv:namesErr d.names = 0) (h0:0≤k) (h2:k≤2) (h1:sideBad s k = false):HasIt d s k:=by
 refine ⟨h0,h2,fun h e => ?_,M.kind,M.three,M.single,hv⟩;unfold sideBad at h1;simp only [Bool.or_eq_false_iff,decide_eq_false_iff_not,Bool.and_eq_false_iff] at h1
 rcases h1.2.2 with h3 | h3
 ·exact h3 e
 ·rcases h with h | h
  ·exact h3.1 h
  ·exact h3.2 h
theorem settle_valid {m:OMod} {s:OSpot} {k:Int} (hm:modErr m = 0) (hk:0≤k∧k≤2) (h:settleLErr s k m.decls = 0):modErr ⟨m.label,m.uses,settleL s k m.decls⟩ = 0:=by
  have V:=valM hm
  obtain ⟨h1,h2⟩:=settleL_map s k m.decls h
  have hid:∀ d e,setF s k d = some e→e.id = d.id:=fun d e h => by
    unfold setF at h
    split at h
    · split at h
      · injection h with h;rw [← h,settleD_id]
      · cases h
    · injection h with h;rw [h]
  refine valM_mod ⟨V.label,V.uses,V.ulen,V.ulab,V.uerr,?_,?_,fun d hd => ?_⟩
  · show (settleL s k m.decls).length≤100
    rw [h1];exact Nat.le_trans (List.length_filterMap_le ..) V.dlen
  · show (settleL s k m.decls).Pairwise _
    rw [h1]
    refine List.Pairwise.filterMap _ (fun a b hab a' ha b' hb => ?_) V.ids
    rw [hid _ _ ha,hid _ _ hb];exact hab
  · have hd:d∈settleL s k m.decls:=hd
    rw [h1] at hd
    obtain ⟨e,he,hf⟩:=List.mem_filterMap.1 hd
    rw [declErr_iff]
    have D:=declErr_iff.1 (V.decl e he)
    unfold setF at hf
    split at hf
    · rename_i hi
      split at hf
      · rename_i hr
        injection hf with hf
        rw [← hf];exact settleD_ok D hk (h2 e he hi) hr
      · cases hf
    · injection hf with hf
      rw [← hf];exact D
theorem settle_ok {m:OMod} {s:OSpot} {k:Int} (h:settleMErr m s k = 0):modErr m = 0∧s∈spotsL m.label m.decls∧sideBad s k = false∧settleLErr s k m.decls = 0∧settleM m s k = ⟨m.label,m.uses,settleL s k m.decls⟩:=by
  have h':=h
  unfold settleMErr at h
  by_cases hm:modErr m = 0
  · rw [if_neg (fun e => e hm)] at h
    cases hs:hasSpot m s with
    | false => rw [hs,if_pos (show (!false) = true from rfl)] at h;exact absurd h (by decide)
    | true =>
      rw [hs,if_neg (by decide)] at h
      cases hb:sideBad s k with
      | true => rw [hb,if_pos rfl] at h;exact absurd h (by decide)
      | false =>
        rw [hb,if_neg (by decide)] at h
        exact ⟨hm,has_iff.1 hs,rfl,h,by unfold settleM;rw [if_pos h']⟩
  · rw [if_pos hm] at h;exact absurd h hm
theorem settleD_sm {d:ODecl} {s:OSpot} {k:Int} (h:SmD d) (hk:0≤k∧k≤2) (hb:exprErr d.body = 0) (he:(settleD d s k).2.2 = 0) (hw:∀ t,nmS t = true→t.size≤40000) (hn:SmX 40000 noX):SmD (settleD d s k).1:=by
 have nm:∀ t:ByteArray,(if nmS t then (0:Int) else 6) = 0→t.size≤40000:=fun t h => by
  cases hn:nmS t with
  | true => exact hw t hn
  | false => rw [hn] at h;exact absurd h (by decide)
 unfold settleD at he ⊢
 by_cases h1:s.kind = 1
 ·rw [if_pos h1] at he ⊢
  exact ⟨fun t ht => by rw [List.mem_singleton.1 ht];exact nm _ he,(by decide:(1:Nat)≤1000000),h.body,h.nodes⟩
 ·rw [if_neg h1] at he ⊢
  by_cases h2:s.kind = 2
  ·rw [if_pos h2] at he ⊢
   have he:setErr d.body s.pos k = 0:=he;refine ⟨h.names,h.len,?_,?_⟩
   ·show SmX 40000 (setOut d.body s.pos k)
    rw [setOut_eq he];exact setX_smX _ _ _ h.body hn
   ·show nodesN (setOut d.body s.pos k)≤4000000
    rw [setOut_eq he];have:=nodes_setX (k:=k.toNat) (by omega) d.body s.pos.toNat (exprErr_val hb);have:=h.nodes;omega
  ·rw [if_neg h2] at he ⊢
   by_cases h3:k = 2
   ·rw [if_pos h3];exact h
   ·rw [if_neg h3] at he ⊢
    by_cases h4:s.kind = 3
    ·rw [if_pos h4];exact ⟨h.names,h.len,h.body,h.nodes⟩
    ·rw [if_neg h4] at he ⊢
     exact ⟨fun t ht => by rw [List.mem_singleton.1 ht];exact nm _ he,(by decide:(1:Nat)≤1000000),h.body,h.nodes⟩
theorem settle_sm {m:OMod} {s:OSpot} {k:Int} (S:SmM m) (hm:modErr m = 0) (hk:0≤k∧k≤2) (h:settleLErr s k m.decls = 0) (hw:∀ t,nmS t = true→t.size≤40000) (hn:SmX 40000 noX):SmM ⟨m.label,m.uses,settleL s k m.decls⟩:=by
 have V:=valM hm;obtain ⟨h1,h2⟩:=settleL_map s k m.decls h;refine ⟨S.label,S.uses,S.ulen,fun d hd => ?_,?_⟩
 ·have hd:d∈settleL s k m.decls:=hd
  rw [h1] at hd;obtain ⟨e,he,hf⟩:=List.mem_filterMap.1 hd;unfold setF at hf;split at hf
  ·rename_i hi
   split at hf
   ·injection hf with hf
    rw [← hf];exact settleD_sm (S.decls e he) hk (decl_ok (V.decl e he)).2.2.2 (h2 e he hi) hw hn
   ·cases hf
  ·injection hf with hf
   rw [← hf];exact S.decls e he
 ·show (settleL s k m.decls).length≤1000000
  rw [h1];exact Nat.le_trans (List.length_filterMap_le ..) S.dlen
theorem split_list {l:List ODecl} {j:Nat} {d:ODecl} (h:l[j]? = some d):l = l.take j ++ d :: l.drop (j + 1):=by
 obtain ⟨hj,rfl⟩:=List.getElem?_eq_some_iff.1 h;rw [← List.drop_eq_getElem_cons hj,List.take_append_drop]
end Go.Proofs.YtdpnfkjafhbndaaGreatDoor

