/- Plain: a conflict of a module gives way to a side (chapter 33). Plain: settling a conflict (chapter 33): what is valid stays valid, and fewer conflicts are left. No program in sight. Plain: a declaration that one side has removed and the other one has changed (chapter 33). No program in sight. -/
import Derived.Test.YtdpnfkjafhbndaaGreatDoorRSA
import Derived.Test.YtdpnfkjafhbndaaGreatDoorRNC
import Derived.Test.YtdpnfkjafhbndaaGreatDoorRShS
namespace Go.Proofs.YtdpnfkjafhbndaaGreatDoor
def itoaB (n:Int):ByteArray:=⟨(Lib.itoa n).toArray⟩
def settleD (d:ODecl) (s:OSpot) (side:Int):ODecl × Bool × Int:=
  if s.kind = 1 then ({ d with names:=[(d.names[side.toNat]?).getD ⟨#[]⟩] },true,if nmS ((d.names[side.toNat]?).getD ⟨#[]⟩) then 0 else 6)
  else if s.kind = 2 then ({ d with body:=setOut d.body s.pos side },true,setErr d.body s.pos side)
  else if side = 2 then (d,false,0)
  else if s.kind = 3 then ({ d with doubt:=false },true,0)
  else ({ d with names:=[(d.names[0]?).getD ⟨#[]⟩ ++ itoaB d.id] },true,if nmS ((d.names[0]?).getD ⟨#[]⟩ ++ itoaB d.id) then 0 else 6)
def settleL (s:OSpot) (side:Int):List ODecl→List ODecl
  | [] => []
  | d :: l => if d.id = s.id then (if (settleD d s side).2.2 = 0 then (if (settleD d s side).2.1 then (settleD d s side).1 :: settleL s side l else settleL s side l) else []) else d :: settleL s side l
def settleLErr (s:OSpot) (side:Int):List ODecl→Int
 | [] => 0
 | d :: l => if d.id = s.id∧(settleD d s side).2.2≠0 then (settleD d s side).2.2 else settleLErr s side l
def sideBad (s:OSpot) (side:Int):Bool:=decide (side < 0) || (decide (2 < side) || (decide (side = 1) && (decide (s.kind = 3) || decide (s.kind = 4))))
def hasSpot (m:OMod) (s:OSpot):Bool:=(spotsL m.label m.decls).any fun t => t.pack.data.toList == s.pack.data.toList && (t.kind == s.kind && (t.id == s.id && t.pos == s.pos))
def settleMErr (m:OMod) (s:OSpot) (side:Int):Int:=if modErr m≠0 then modErr m else if !(hasSpot m s) then 8 else if sideBad s side then 2 else settleLErr s side m.decls
def settleM (m:OMod) (s:OSpot) (side:Int):OMod:=if settleMErr m s side = 0 then ⟨m.label,m.uses,settleL s side m.decls⟩ else noMod
structure HasIt (d:ODecl) (s:OSpot) (side:Int):Prop where
  lo:0≤side
  hi:side≤2
  one:(s.kind = 3∨s.kind = 4)→side≠1
  kind:s.kind = 1∨s.kind = 2∨s.kind = 3∨s.kind = 4
  three:s.kind = 1→d.names.length = 3
  single:s.kind = 4→d.names.length = 1
  valid:namesErr d.names = 0
theorem settleL_append (s:OSpot) (side:Int):∀ a b:List ODecl,settleLErr s side a = 0→settleL s side (a ++ b) = settleL s side a ++ settleL s side b∧settleLErr s side (a ++ b) = settleLErr s side b
 | [],b,_ => ⟨by rw [settleL];rfl,rfl⟩
 | d :: a,b,h => by
  rw [settleLErr] at h;split at h
  ·rename_i h1;exact absurd h h1.2
  ·rename_i h1
   obtain ⟨h2,h3⟩:=settleL_append s side a b h;rw [List.cons_append];refine ⟨?_,by rw [settleLErr,if_neg h1];exact h3⟩;rw [settleL,settleL,h2]
   by_cases hd:d.id = s.id
   ·have he:(settleD d s side).2.2 = 0:=Classical.byContradiction fun h => h1 ⟨hd,h⟩
    rw [if_pos hd,if_pos he,if_pos hd,if_pos he];split <;> rfl
   ·rw [if_neg hd,if_neg hd];rfl
structure Mine (d:ODecl) (s:OSpot):Prop where
  kind:s.kind = 1∨s.kind = 2∨s.kind = 3∨s.kind = 4
  three:s.kind = 1→d.names.length = 3
  pos:s.kind = 2→0≤s.pos∧s.pos < (confX d.body:Int)
  doubt:s.kind = 3→d.doubt = true
  single:s.kind = 4→d.names.length = 1
def setF (s:OSpot) (side:Int) (d:ODecl):Option ODecl:=if d.id = s.id then (if (settleD d s side).2.1 then some (settleD d s side).1 else none) else some d
theorem settleL_map (s:OSpot) (side:Int):∀ l:List ODecl,settleLErr s side l = 0→settleL s side l = l.filterMap (setF s side)∧∀ d∈l,d.id = s.id→(settleD d s side).2.2 = 0
 | [],_ => ⟨by rw [settleL];rfl,fun d hd => by cases hd⟩
 | d :: l,h => by
  rw [settleLErr] at h;split at h
  ·rename_i h1;exact absurd h h1.2
  ·rename_i h1
   obtain ⟨ih1,ih2⟩:=settleL_map s side l h;have h0:d.id = s.id→(settleD d s side).2.2 = 0:=fun e => Classical.byContradiction fun h => h1 ⟨e,h⟩;refine ⟨?_,fun e he hid => ?_⟩
   ·rw [settleL,List.filterMap_cons,ih1]
    unfold setF
    by_cases hd:d.id = s.id
    ·rw [if_pos hd,if_pos hd,if_pos (h0 hd)]
     cases (settleD d s side).2.1 <;> rfl
    ·rw [if_neg hd,if_neg hd]
   ·rcases List.mem_cons.1 he with rfl | he
    ·exact h0 hid
    ·exact ih2 e he hid
theorem settleLErr_zero (s:OSpot) (side:Int):∀ l:List ODecl,(∀ d∈l,d.id = s.id→(settleD d s side).2.2 = 0)→settleLErr s side l = 0
 | [],_ => rfl
 | d :: l,h => by
  rw [settleLErr,if_neg (fun e => e.2 (h d (List.mem_cons_self ..) e.1))];exact settleLErr_zero s side l fun e he => h e (List.mem_cons_of_mem _ he)
theorem spotsD_mine {label:ByteArray} {prev:List ODecl} {d:ODecl} {s:OSpot} (h:s∈spotsD label prev d):s.id = d.id∧s.pack = label∧Mine d s:=by
 unfold spotsD at h;simp only [List.mem_append] at h
 rcases h with ((h | h) | h) | h
 ·split at h
  ·rename_i h3
   have e:=List.mem_singleton.1 h;subst e;exact ⟨rfl,rfl,.inl rfl,fun _ => h3,fun e => absurd (show (1:Int) = 2 from e) (by decide),fun e => absurd (show (1:Int) = 3 from e) (by decide),fun e => absurd (show (1:Int) = 4 from e) (by decide)⟩
  ·cases h
 ·obtain ⟨i,hi,e⟩:=List.mem_map.1 h
  subst e;have:=List.mem_range.1 hi;exact ⟨rfl,rfl,.inr (.inl rfl),fun e => absurd (show (2:Int) = 1 from e) (by decide),fun _ => ⟨by show (0:Int)≤(i:Int);omega,by show (i:Int) < (confX d.body:Int);omega⟩,fun e => absurd (show (2:Int) = 3 from e) (by decide),fun e => absurd (show (2:Int) = 4 from e) (by decide)⟩
 ·split at h
  ·rename_i h3
   have e:=List.mem_singleton.1 h;subst e;exact ⟨rfl,rfl,.inr (.inr (.inl rfl)),fun e => absurd (show (3:Int) = 1 from e) (by decide),fun e => absurd (show (3:Int) = 2 from e) (by decide),fun _ => h3,fun e => absurd (show (3:Int) = 4 from e) (by decide)⟩
  ·cases h
 ·split at h
  ·rename_i h3
   have e:=List.mem_singleton.1 h;subst e;unfold clashB at h3;rw [Bool.and_eq_true] at h3;exact ⟨rfl,rfl,.inr (.inr (.inr rfl)),fun e => absurd (show (4:Int) = 1 from e) (by decide),fun e => absurd (show (4:Int) = 2 from e) (by decide),fun e => absurd (show (4:Int) = 3 from e) (by decide),fun _ => of_decide_eq_true h3.1⟩
  ·cases h
theorem mem_spots {label:ByteArray} {ds:List ODecl} {s:OSpot}:s∈spotsL label ds↔∃ i d,ds[i]? = some d∧s∈spotsD label (ds.take i) d:=by
 unfold spotsL spotsTo;rw [List.mem_flatMap]
 constructor
 ·rintro ⟨i,hi,h⟩
  have hi:=List.mem_range.1 hi;rw [dAt_of (List.getElem?_eq_getElem hi)] at h;exact ⟨i,_,List.getElem?_eq_getElem hi,h⟩
 ·rintro ⟨i,d,hd,h⟩
  refine ⟨i,List.mem_range.2 (List.getElem?_eq_some_iff.1 hd).1,?_⟩;rw [dAt_of hd];exact h
theorem has_iff {m:OMod} {s:OSpot}:hasSpot m s = true↔s∈spotsL m.label m.decls:=by
 unfold hasSpot;rw [List.any_eq_true]
 constructor
 ·rintro ⟨t,ht,h⟩
  simp only [Bool.and_eq_true,beq_iff_eq] at h
  obtain ⟨h1,h2,h3,h4⟩:=h
  have e:t = s:=by
   cases t;cases s
   have:=ba_eq h1;simp only at this h2 h3 h4
   rw [this,h2,h3,h4]
  rw [← e];exact ht
 ·intro h
  exact ⟨s,h,by simp⟩
theorem spot_mine {m:OMod} (V:ValM m) {s:OSpot} (h:s∈spotsL m.label m.decls):(∃ d∈m.decls,d.id = s.id)∧s.pack = m.label∧∀ d∈m.decls,d.id = s.id→Mine d s:=by
  obtain ⟨i,d,hd,hs⟩:=mem_spots.1 h
  obtain ⟨h1,h2,h3⟩:=spotsD_mine hs
  have hm:=List.mem_of_getElem? hd
  refine ⟨⟨d,hm,h1.symm⟩,h2,fun e he hid => ?_⟩
  have e1:=findD_of V.ids hm
  have e2:=findD_of V.ids he
  rw [hid,h1,e1] at e2
  injection e2 with e2
  rw [← e2];exact h3
theorem Mine.has {d:ODecl} {s:OSpot} (M:Mine d s) {k:Int} (hv:namesErr d.names = 0) (h0:0≤k) (h2:k≤2) (h1:sideBad s k = false):HasIt d s k:=by
 refine ⟨h0,h2,fun h e => ?_,M.kind,M.three,M.single,hv⟩;unfold sideBad at h1;simp only [Bool.or_eq_false_iff,decide_eq_false_iff_not,Bool.and_eq_false_iff] at h1
 rcases h1.2.2 with h3 | h3
 ·exact h3 e
 ·rcases h with h | h
  ·exact h3.1 h
  ·exact h3.2 h
theorem settle_ok {m:OMod} {s:OSpot} {k:Int} (h:settleMErr m s k = 0):modErr m = 0∧s∈spotsL m.label m.decls∧sideBad s k = false∧settleLErr s k m.decls = 0∧settleM m s k = ⟨m.label,m.uses,settleL s k m.decls⟩:=by
  have h':=h
  unfold settleMErr at h
  by_cases hm:modErr m = 0
  · rw [if_neg (fun e => e hm)] at h
    cases hs:hasSpot m s with
    | false => rw [hs,if_pos (show (!false) = true from rfl)] at h;exact absurd h (by decide)
    | true =>
      rw [hs,if_neg (by decide)] at h
      cases hb:sideBad s k with
      | true => rw [hb,if_pos rfl] at h;exact absurd h (by decide)
      | false =>
        rw [hb,if_neg (by decide)] at h
        exact ⟨hm,has_iff.1 hs,rfl,h,by unfold settleM;rw [if_pos h']⟩
  · rw [if_pos hm] at h;exact absurd h hm
def goneM (m:OMod) (j:Nat):OMod:=⟨m.label,m.uses,m.decls.take j ++ m.decls.drop (j + 1)⟩
theorem split_list {l:List ODecl} {j:Nat} {d:ODecl} (h:l[j]? = some d):l = l.take j ++ d :: l.drop (j + 1):=by
 obtain ⟨hj,rfl⟩:=List.getElem?_eq_some_iff.1 h;rw [← List.drop_eq_getElem_cons hj,List.take_append_drop]
theorem split_set {l:List ODecl} {j:Nat} {d e:ODecl} (h:l[j]? = some d):l.set j e = l.take j ++ e :: l.drop (j + 1):=by
 obtain ⟨hj,_⟩:=List.getElem?_eq_some_iff.1 h;rw [List.set_eq_take_append_cons_drop,if_pos hj]
theorem filterMap_self {f:ODecl→Option ODecl}:∀ {l:List ODecl},(∀ d∈l,f d = some d)→l.filterMap f = l
 | [],_ => rfl
 | d :: l,h => by rw [List.filterMap_cons,h d (List.mem_cons_self ..)];simp only;rw [filterMap_self fun e he => h e (List.mem_cons_of_mem _ he)]
theorem findD_iff {l:List ODecl} (hp:l.Pairwise fun a b => a.id < b.id) {i:Int} {x:ODecl}:findD l i = some x↔x∈l∧x.id = i:=
 ⟨fun h => ⟨(findD_id h).2,(findD_id h).1⟩,fun h => by rw [← h.2];exact findD_of hp h.1⟩
theorem split_ids {A B:List ODecl} {d:ODecl} (h:(A ++ d :: B).Pairwise fun a b => a.id < b.id):(∀ a∈A,a.id≠d.id)∧(∀ b∈B,b.id≠d.id)∧(A ++ B).Pairwise fun a b => a.id < b.id:=by
  obtain ⟨h1,h2,h3⟩:=List.pairwise_append.1 h
  obtain ⟨h4,h5⟩:=List.pairwise_cons.1 h2
  exact ⟨fun a ha e => by have:=h3 a ha d (List.mem_cons_self ..);omega,fun b hb e => by have:=h4 b hb;omega,List.pairwise_append.2 ⟨h1,h5,fun a ha b hb => h3 a ha b (List.mem_cons_of_mem _ hb)⟩⟩
theorem find_gone {b:OMod} {j:Nat} {d:ODecl} (hp:b.decls.Pairwise fun a b => a.id < b.id) (hd:b.decls[j]? = some d) (i:Int):findD (goneM b j).decls i = if i = d.id then none else findD b.decls i:=by
 have e:=split_list hd;have hp':=hp;rw [e] at hp';obtain ⟨h1,h2,h3⟩:=split_ids hp'
 have hmem:∀ x,x∈(goneM b j).decls↔x∈b.decls∧x.id≠d.id:=by
  intro x;show x∈b.decls.take j ++ b.decls.drop (j + 1)↔_
  constructor
  ·intro hx
   rcases List.mem_append.1 hx with hx | hx
   ·exact ⟨List.mem_of_mem_take hx,h1 x hx⟩
   ·exact ⟨List.mem_of_mem_drop hx,h2 x hx⟩
  ·rintro ⟨hx,hne⟩
   rw [e] at hx
   rcases List.mem_append.1 hx with hx | hx
   ·exact List.mem_append_left _ hx
   ·rcases List.mem_cons.1 hx with rfl | hx
    ·exact absurd rfl hne
    ·exact List.mem_append_right _ hx
 refine Option.ext fun x => ?_;rw [findD_iff (l:=(goneM b j).decls) h3,hmem]
 by_cases hi:i = d.id
 ·rw [if_pos hi]
  constructor
  ·rintro ⟨⟨_,h4⟩,h5⟩;exact absurd (h5.trans hi) h4
  ·intro h;cases h
 ·rw [if_neg hi,findD_iff hp]
  exact ⟨fun h => ⟨h.1.1,h.2⟩,fun h => ⟨⟨h.1,fun h' => hi (h.2.symm.trans h')⟩,h.2⟩⟩
theorem gone_valid {b:OMod} {j:Nat} (hb:modErr b = 0):modErr (goneM b j) = 0:=by
 have V:=valM hb
 have hs:(b.decls.take j ++ b.decls.drop (j + 1)).Sublist b.decls:=by
  have e:=List.take_append_drop j b.decls
  have h2:(b.decls.drop (j + 1)).Sublist (b.decls.drop j):=by
   rw [← List.drop_drop];exact List.drop_sublist _ _
  have:=(List.Sublist.refl (b.decls.take j)).append h2;rwa [e] at this
 exact valM_mod ⟨V.label,V.uses,V.ulen,V.ulab,V.uerr,Nat.le_trans hs.length_le V.dlen,V.ids.sublist hs,fun d hd => V.decl d (hs.subset hd)⟩
theorem doubt_valid {b:OMod} {j:Nat} {d e:ODecl} (hd:b.decls[j]? = some d) (he:e.id = d.id) (hb:modErr b = 0) (h2:modErr (setD b j e) = 0):modErr (setD b j (doubtD e)) = 0:=by
 have V:=valM hb;have V2:=valM h2;have hD:=declErr_iff.1 (V2.decl e (set_mem hd));refine valM_mod ⟨V.label,V.uses,V.ulen,V.ulab,V.uerr,?_,ids_set hd he V.ids,fun x hx => ?_⟩
 ·show (b.decls.set j (doubtD e)).length≤100
  rw [List.length_set];exact V.dlen
 ·rcases List.mem_or_eq_of_mem_set hx with hx | hx
  ·exact V.decl x hx
  ·rw [hx];exact declErr_iff.2 hD.doubt
theorem removed_merge {b:OMod} {j:Nat} {d:ODecl} {x:Ex} (hb:cleanB b = true) (hd:b.decls[j]? = some d) (h2:modErr (setD b j (bodyD d x d.pub)) = 0) (hx:x≠d.body) :
    modErr (setD b j (doubtD (bodyD d x d.pub))) = 0 ∧
    (mergeMErr b (goneM b j) (setD b j (bodyD d x d.pub)) = 0∧mergeM b (goneM b j) (setD b j (bodyD d x d.pub)) = setD b j (doubtD (bodyD d x d.pub))) ∧
    (mergeMErr b (setD b j (bodyD d x d.pub)) (goneM b j) = 0∧mergeM b (setD b j (bodyD d x d.pub)) (goneM b j) = setD b j (doubtD (bodyD d x d.pub))):=by
  obtain ⟨hb0,hcl⟩:=cleanB_ok hb
  have V:=valM hb0
  have he:(bodyD d x d.pub).id = d.id:=rfl
  have ho:=doubt_valid hd he hb0 h2
  have hg:=gone_valid (j:=j) hb0
  have hne:sameD (bodyD d x d.pub) d = false:=by
    unfold sameD
    have:sameX (bodyD d x d.pub).body d.body = false:=same_diff hx
    rw [this]
    simp only [Bool.and_false]
  have e1:findD b.decls d.id = some d:=findD_of V.ids (List.mem_of_getElem? hd)
  have fg:=find_gone V.ids hd
  have fc:=find_set (e:=bodyD d x d.pub) hd he V.ids
  have fo:=find_set (e:=doubtD (bodyD d x d.pub)) hd he V.ids
  have same:∀ i,mergeD (findD b.decls i) (findD b.decls i) (findD b.decls i) = findD b.decls i∧mergeDErr (findD b.decls i) (findD b.decls i) (findD b.decls i) = 0:=by
    intro i
    cases h1:findD b.decls i with
    | none => exact ⟨rfl,rfl⟩
    | some y =>
      have q1:=(find_ok hb0 h1).1
      refine ⟨?_,?_⟩
      · show some (bothM y y y) = some y
        rw [bothM_both]
      · show bothErr y y y = 0
        exact bothErr_of (by rw [sameSs_self];rfl) (mergeXErr_of q1 q1 q1 (by rw [mergeX_both];exact q1))
  have hid:∀ l r:OMod,∀ y∈(setD b j (doubtD (bodyD d x d.pub))).decls,y.id∈idsM b l r:=by
    intro l r y hy
    refine ((idsM_spec b l r).2 _).2 (.inl ?_)
    rcases List.mem_or_eq_of_mem_set hy with hy | hy
    · exact ⟨y,hy,rfl⟩
    · exact ⟨d,List.mem_of_getElem? hd,by rw [hy];rfl⟩
  refine ⟨ho,merge_is hb0 hg h2 ho rfl rfl rfl (uses_both _ V.uses) (fun i => ?_) (hid _ _),merge_is hb0 h2 hg ho rfl rfl rfl (uses_both _ V.uses) (fun i => ?_) (hid _ _)⟩
  · have f1:findD (setD b j (bodyD d x d.pub)).decls i = _:=fc i
    have f2:findD (setD b j (doubtD (bodyD d x d.pub))).decls i = _:=fo i
    rw [fg,f1,f2]
    by_cases hi:i = d.id
    · rw [if_pos hi,if_pos hi,if_pos hi,hi,e1]
      refine ⟨?_,rfl⟩
      show oneD (some d) (bodyD d x d.pub) = _
      unfold oneD
      simp only [hne]
      rfl
    · rw [if_neg hi,if_neg hi,if_neg hi]
      exact same i
  · have f1:findD (setD b j (bodyD d x d.pub)).decls i = _:=fc i
    have f2:findD (setD b j (doubtD (bodyD d x d.pub))).decls i = _:=fo i
    rw [fg,f1,f2]
    by_cases hi:i = d.id
    · rw [if_pos hi,if_pos hi,if_pos hi,hi,e1]
      refine ⟨?_,rfl⟩
      show oneD (some d) (bodyD d x d.pub) = _
      unfold oneD
      simp only [hne]
      rfl
    · rw [if_neg hi,if_neg hi,if_neg hi]
      exact same i
theorem settle_two (l:ByteArray) (i:Int) (d:ODecl):settleD d ⟨l,3,i,0⟩ 2 = (d,false,0):=by
 unfold settleD;rw [if_neg (show ¬ (3:Int) = 1 by decide),if_neg (show ¬ (3:Int) = 2 by decide),if_pos rfl]
theorem settle_nought (l:ByteArray) (i:Int) (d:ODecl):settleD d ⟨l,3,i,0⟩ 0 = ({ d with doubt:=false },true,0):=by
 unfold settleD;rw [if_neg (show ¬ (3:Int) = 1 by decide),if_neg (show ¬ (3:Int) = 2 by decide),if_neg (by decide),if_pos (show (3:Int) = 3 from rfl)]
theorem setF_mine {l:ByteArray} {i k:Int} {d:ODecl} (h:d.id = i):setF ⟨l,3,i,0⟩ k d = if (settleD d ⟨l,3,i,0⟩ k).2.1 then some (settleD d ⟨l,3,i,0⟩ k).1 else none:=by
 unfold setF;rw [if_pos (show d.id = (⟨l,3,i,0⟩:OSpot).id from h)]
theorem removed_settle {b:OMod} {j:Nat} {d:ODecl} {x:Ex} (hb:cleanB b = true) (hd:b.decls[j]? = some d) (h2:modErr (setD b j (bodyD d x d.pub)) = 0) :
    (settleMErr (setD b j (doubtD (bodyD d x d.pub))) ⟨b.label,3,d.id,0⟩ 2 = 0∧settleM (setD b j (doubtD (bodyD d x d.pub))) ⟨b.label,3,d.id,0⟩ 2 = goneM b j) ∧
    (settleMErr (setD b j (doubtD (bodyD d x d.pub))) ⟨b.label,3,d.id,0⟩ 0 = 0∧settleM (setD b j (doubtD (bodyD d x d.pub))) ⟨b.label,3,d.id,0⟩ 0 = setD b j (bodyD d x d.pub)):=by
  obtain ⟨hb0,hcl⟩:=cleanB_ok hb
  have V:=valM hb0
  have ho:=doubt_valid hd (rfl:(bodyD d x d.pub).id = d.id) hb0 h2
  obtain ⟨hj,hdj⟩:=List.getElem?_eq_some_iff.1 hd
  have hdb:=(hcl d (List.mem_of_getElem? hd)).doubt
  have hs:hasSpot (setD b j (doubtD (bodyD d x d.pub))) ⟨b.label,3,d.id,0⟩ = true:=by
    refine has_iff.2 (mem_spots.2 ⟨j,doubtD (bodyD d x d.pub),?_,?_⟩)
    · show (b.decls.set j _)[j]? = _
      rw [List.getElem?_set_self hj]
    · unfold spotsD
      simp only [List.mem_append]
      refine .inl (.inr ?_)
      rw [if_pos (show (doubtD (bodyD d x d.pub)).doubt = true from rfl)]
      exact List.mem_cons_self ..
  have hE:∀ k:Int,k = 2∨k = 0→settleLErr ⟨b.label,3,d.id,0⟩ k (setD b j (doubtD (bodyD d x d.pub))).decls = 0:=by
    intro k hk
    refine settleLErr_zero _ _ _ fun y _ _ => ?_
    rcases hk with rfl | rfl
    · rw [settle_two]
    · rw [settle_nought]
  have e:=split_set (e:=doubtD (bodyD d x d.pub)) hd
  have e0:=split_set (e:=bodyD d x d.pub) hd
  have hp':=V.ids
  rw [split_list hd] at hp'
  obtain ⟨h3,h4,_⟩:=split_ids hp'
  have keep:∀ k:Int,∀ y:ODecl,y.id≠d.id→setF ⟨b.label,3,d.id,0⟩ k y = some y:=fun k y h => by unfold setF;rw [if_neg h]
  have out:∀ k:Int,k = 2∨k = 0→settleMErr (setD b j (doubtD (bodyD d x d.pub))) ⟨b.label,3,d.id,0⟩ k = 0:=by
    intro k hk
    unfold settleMErr
    rw [if_neg (fun e => e ho),hs,if_neg (by decide),hE k hk]
    rcases hk with rfl | rfl <;> rfl
  have lst:∀ k:Int,k = 2∨k = 0→(settleM (setD b j (doubtD (bodyD d x d.pub))) ⟨b.label,3,d.id,0⟩ k) = ⟨b.label,b.uses,b.decls.take j ++ ((match setF ⟨b.label,3,d.id,0⟩ k (doubtD (bodyD d x d.pub)) with | some e => [e] | none => []) ++ b.decls.drop (j + 1))⟩:=by
    intro k hk
    unfold settleM
    rw [if_pos (out k hk),(settleL_map _ _ _ (hE k hk)).1]
    show OMod.mk b.label b.uses ((b.decls.set j _).filterMap _) = _
    rw [e,List.filterMap_append,List.filterMap_cons,filterMap_self fun y hy => keep k y (h3 y hy),filterMap_self (l:=b.decls.drop (j + 1)) fun y hy => keep k y (h4 y hy)]
    cases setF ⟨b.label,3,d.id,0⟩ k (doubtD (bodyD d x d.pub)) <;> rfl
  refine ⟨⟨out 2 (.inl rfl),?_⟩,out 0 (.inr rfl),?_⟩
  · rw [lst 2 (.inl rfl)]
    have:setF ⟨b.label,3,d.id,0⟩ 2 (doubtD (bodyD d x d.pub)) = none:=by
      rw [setF_mine (show (doubtD (bodyD d x d.pub)).id = d.id from rfl),settle_two]
      rfl
    rw [this]
    rfl
  · rw [lst 0 (.inr rfl)]
    have:setF ⟨b.label,3,d.id,0⟩ 0 (doubtD (bodyD d x d.pub)) = some (bodyD d x d.pub):=by
      rw [setF_mine (show (doubtD (bodyD d x d.pub)).id = d.id from rfl),settle_nought]
      simp only [if_true]
      unfold doubtD bodyD
      rw [hdb]
    rw [this]
    show OMod.mk b.label b.uses (b.decls.take j ++ ([bodyD d x d.pub] ++ b.decls.drop (j + 1))) = OMod.mk b.label b.uses (b.decls.set j (bodyD d x d.pub))
    rw [e0]
    rfl
end Go.Proofs.YtdpnfkjafhbndaaGreatDoor

