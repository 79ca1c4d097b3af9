/- Lists of strings, sorted, each once: what slices.Sort and slices.Compact leave is what the reference builds by With. No program in sight. Valid modules, plainly: ascending labels and ids; merging where one side has not changed. No program in sight. Conflicts of modules, plainly; exchanging left and right. No program in sight. Merging again changes nothing: plainly. No program in sight. What is merged is valid; declarations are merged independently: plainly. No program in sight. Changes of different fields go together: plainly. No program in sight. -/
import Derived.Test.YtdpnfkjafhbndaaGreatDoorRNA
import Derived.Lib.SlicesCompact
import Derived.Sort.Walk0
namespace Go.Proofs.YtdpnfkjafhbndaaGreatDoor
theorem less_irrefl:∀ a:List UInt8,Op.bytesLess a a = false
 | [] => by simp [Op.bytesLess]
 | x :: a => by simp [Op.bytesLess,less_irrefl a]
theorem less_trans:∀ {a b c:List UInt8},Op.bytesLess a b = true→Op.bytesLess b c = true→Op.bytesLess a c = true
 | [],[],_,h,_ => by simp [Op.bytesLess] at h
 | _,_ :: _,[],_,h => by simp [Op.bytesLess] at h
 | [],_ :: _,_ :: _,_,_ => by simp [Op.bytesLess]
 | _ :: _,[],_,h,_ => by simp [Op.bytesLess] at h
 | x :: a,y :: b,z :: c,h1,h2 => by
  simp only [Op.bytesLess,Bool.or_eq_true,decide_eq_true_eq,Bool.and_eq_true,beq_iff_eq] at h1 h2 ⊢
  rcases h1 with h1 | ⟨rfl,h1⟩
  ·rcases h2 with h2 | ⟨rfl,h2⟩
   ·exact .inl (UInt8.lt_trans h1 h2)
   ·exact .inl h1
  ·rcases h2 with h2 | ⟨rfl,h2⟩
   ·exact .inl h2
   ·exact .inr ⟨rfl,less_trans h1 h2⟩
theorem less_total:∀ a b:List UInt8,Op.bytesLess a b = true∨a = b∨Op.bytesLess b a = true
 | [],[] => .inr (.inl rfl)
 | [],_ :: _ => .inl (by simp [Op.bytesLess])
 | _ :: _,[] => .inr (.inr (by simp [Op.bytesLess]))
 | x :: a,y :: b => by
  simp only [Op.bytesLess,Bool.or_eq_true,decide_eq_true_eq,Bool.and_eq_true,beq_iff_eq]
  rcases Nat.lt_trichotomy x.toNat y.toNat with h | h | h
  ·exact .inl (.inl (UInt8.lt_iff_toNat_lt.2 h))
  ·have e:x = y:=UInt8.toNat_inj.1 h
   subst e
   rcases less_total a b with h | h | h
   ·exact .inl (.inr ⟨rfl,h⟩)
   ·exact .inr (.inl (by rw [h]))
   ·exact .inr (.inr (.inr ⟨rfl,h⟩))
  ·exact .inr (.inr (.inl (UInt8.lt_iff_toNat_lt.2 h)))
def ltS (a b:ByteArray):Prop:=Op.bytesLess a.data.toList b.data.toList = true
theorem ltS_irrefl {a:ByteArray} (h:ltS a a):False:=by unfold ltS at h;rw [less_irrefl] at h;cases h
theorem ltS_trans {a b c:ByteArray} (h:ltS a b) (k:ltS b c):ltS a c:=less_trans h k
theorem ba_eq {a b:ByteArray} (h:a.data.toList = b.data.toList):a = b:=by
 cases a;cases b;simp only [ByteArray.mk.injEq];exact Array.toList_inj.1 h
theorem ltS_of {a b:ByteArray} (h:Op.bytesLess a.data.toList b.data.toList = false) (hne:a≠b):ltS b a:=by
 rcases less_total a.data.toList b.data.toList with h1 | h1 | h1
 ·rw [h] at h1;cases h1
 ·exact absurd (ba_eq h1) hne
 ·exact h1
theorem withL_spec {l:List ByteArray} (s:ByteArray) (hp:l.Pairwise ltS):(withL l s).Pairwise ltS∧∀ x,x∈withL l s↔x = s∨x∈l:=by
 have hk:placeW l s≤l.length:=List.findIdx_le_length
 have h1:∀ x∈l.take (placeW l s),ltS x s:=by
  intro x hx;obtain ⟨j,hj,rfl⟩:=List.mem_iff_getElem.1 hx;rw [List.length_take] at hj;have:=List.not_of_lt_findIdx (p:=fun t => !(Op.bytesLess t.toList s.toList)) (xs:=l) (i:=j) (by show j < placeW l s;omega);rw [List.getElem_take];simp only [Bool.not_eq_false'] at this
  have e1:∀ a b:ByteArray,Op.bytesLess a.toList b.toList = Op.bytesLess a.data.toList b.data.toList:=fun a b => by rw [tl,tl]
  exact (e1 _ _).symm.trans this
 have hsplit:∀ x,x∈l↔x∈l.take (placeW l s)∨x∈l.drop (placeW l s):=fun x => by
  rw [← List.mem_append,List.take_append_drop]
 have hpt:(l.take (placeW l s)).Pairwise ltS:=hp.sublist (List.take_sublist _ _);have hpd:(l.drop (placeW l s)).Pairwise ltS:=hp.sublist (List.drop_sublist _ _)
 have hcross:∀ x∈l.take (placeW l s),∀ y∈l.drop (placeW l s),ltS x y:=by
  have:=hp;rw [← List.take_append_drop (placeW l s) l] at this;exact (List.pairwise_append.1 this).2.2
 have h2:(hlt:placeW l s < l.length)→(Op.bytesLess (l[placeW l s]'hlt).data.toList s.data.toList = false):=by
  intro hlt;have:=List.findIdx_getElem (p:=fun (t:ByteArray) => !(Op.bytesLess t.toList s.toList)) (xs:=l) (w:=hlt);simp only [Bool.not_eq_true'] at this
  have e1:∀ a b:ByteArray,Op.bytesLess a.toList b.toList = Op.bytesLess a.data.toList b.data.toList:=fun a b => by rw [tl,tl]
  exact (e1 _ _).symm.trans this
 have hsat:∀ hlt:placeW l s < l.length,sAt l (placeW l s) = l[placeW l s]'hlt:=fun hlt => sAt_of hlt;unfold withL;split
 ·rename_i hc
  have he:l[placeW l s]'hc.1 = s:=by
   have:=hc.2;rw [tl,tl,hsat hc.1] at this;exact ba_eq this
  refine ⟨hp,fun x => ⟨fun h => .inr h,fun h => h.elim (fun e => ?_) id⟩⟩;rw [e,← he];exact List.getElem_mem _
 ·rename_i hc
  have h3:∀ y∈l.drop (placeW l s),ltS s y:=by
   intro y hy
   by_cases hlt:placeW l s < l.length
   ·have hne:l[placeW l s]'hlt≠s:=fun e => hc ⟨hlt,by rw [hsat hlt,e]⟩
    have hs:ltS s (l[placeW l s]'hlt):=ltS_of (h2 hlt) hne;rw [List.drop_eq_getElem_cons hlt] at hy hpd
    rcases List.mem_cons.1 hy with rfl | hy
    ·exact hs
    ·exact ltS_trans hs ((List.pairwise_cons.1 hpd).1 _ hy)
   ·rw [List.drop_eq_nil_of_le (by omega)] at hy
    cases hy
  refine ⟨?_,fun x => ?_⟩
  ·rw [List.pairwise_append,List.pairwise_append]
   refine ⟨⟨hpt,List.pairwise_singleton _ _,fun a ha b hb => ?_⟩,hpd,fun a ha b hb => ?_⟩
   ·rw [List.mem_singleton] at hb
    rw [hb];exact h1 a ha
   ·rcases List.mem_append.1 ha with ha | ha
    ·exact hcross a ha b hb
    ·rw [List.mem_singleton] at ha
     rw [ha];exact h3 b hb
  ·rw [List.mem_append,List.mem_append,List.mem_singleton,hsplit x]
   constructor
   ·rintro ((h | h) | h)
    ·exact .inr (.inl h)
    ·exact .inl h
    ·exact .inr (.inr h)
   ·rintro (h | h | h)
    ·exact .inl (.inr h)
    ·exact .inl (.inl h)
    ·exact .inr h
theorem withAll_spec:∀ (ns l:List ByteArray),l.Pairwise ltS→(withAll l ns).Pairwise ltS∧∀ x,x∈withAll l ns↔x∈l∨x∈ns
 | [],l,hp => ⟨hp,fun x => by show x∈l↔_;simp⟩
 | n :: ns,l,hp => by
  obtain ⟨h1,h2⟩:=withL_spec n hp;obtain ⟨h3,h4⟩:=withAll_spec ns (withL l n) h1;refine ⟨h3,fun x => ?_⟩
  show x∈withAll (withL l n) ns↔_
  rw [h4 x,h2 x,List.mem_cons]
  constructor
  ·rintro ((h | h) | h)
   ·exact .inr (.inl h)
   ·exact .inl h
   ·exact .inr (.inr h)
  ·rintro (h | h | h)
   ·exact .inl (.inr h)
   ·exact .inl (.inl h)
   ·exact .inr h
theorem sorted_unique {l m:List ByteArray} (hl:l.Pairwise ltS) (hm:m.Pairwise ltS) (h:∀ x,x∈l↔x∈m):l = m:=by
  have nd:∀ {l:List ByteArray},l.Pairwise ltS→l.Nodup:=fun hp => hp.imp fun {a b} h e => by subst e;exact ltS_irrefl h
  refine List.Perm.eq_of_pairwise (le:=fun a b => ltS a b) (fun a b _ _ h1 h2 => (ltS_irrefl (ltS_trans h1 h2)).elim) hl hm ((List.perm_ext_iff_of_nodup (nd hl) (nd hm)).2 h)
theorem memS_iff {s:ByteArray} {l:List ByteArray}:memS s l = true↔s∈l:=by
 unfold memS;rw [List.any_eq_true]
 constructor
 ·rintro ⟨t,ht,h⟩
  rw [beq_iff_eq] at h;rw [ba_eq h];exact ht
 ·intro h
  exact ⟨s,h,by simp⟩
theorem uses_eq {L b l r:List ByteArray} (hL:L.Pairwise ltS) (hm:∀ x,x∈L↔x∈b∨x∈l∨x∈r):L.filter (fun s => truthB (memS s b) (memS s l) (memS s r)) = usesM b l r:=by
  obtain ⟨h1,h2⟩:=withAll_spec (l ++ r) [] List.Pairwise.nil
  refine sorted_unique (hL.filter _) (h1.filter _) (fun x => ?_)
  rw [List.mem_filter,show usesM b l r = (withAll [] (l ++ r)).filter fun s => truthB (memS s b) (memS s l) (memS s r) from rfl,List.mem_filter,hm,h2,List.mem_append]
  constructor
  · rintro ⟨h,ht⟩
    refine ⟨.inr ?_,ht⟩
    rcases h with h | h
    · by_cases hl:x∈l
      · exact .inl hl
      · by_cases hr:x∈r
        · exact .inr hr
        · have e1:=memS_iff.2 h
          have e2:memS x l = false:=by rw [← Bool.not_eq_true];exact fun h => hl (memS_iff.1 h)
          have e3:memS x r = false:=by rw [← Bool.not_eq_true];exact fun h => hr (memS_iff.1 h)
          rw [e1,e2,e3] at ht
          cases ht
    · exact h
  · rintro ⟨h,ht⟩
    refine ⟨.inr ?_,ht⟩
    rcases h with h | h
    · cases h
    · exact h
theorem compactUpTo_spec (d:Array (List UInt8)) (hs:∀ i j,i≤j→j < d.size→Op.bytesLess d[j]! d[i]! = false) :
  ∀ m,m≤d.size→(Lib.compactUpTo d m).Pairwise (fun x y => Op.bytesLess x y = true)∧∀ x,x∈Lib.compactUpTo d m↔∃ j,j < m∧d[j]! = x:=by
 intro m
 induction m with
 | zero => intro _;exact ⟨by simp [Lib.compactUpTo],fun x => by simp [Lib.compactUpTo]⟩
 | succ m ih =>
  intro hm;obtain ⟨h1,h2⟩:=ih (by omega);rw [Lib.compactUpTo_succ]
  by_cases hk:Lib.keeps d m = true
  ·rw [if_pos hk]
   have hlast:∀ x∈Lib.compactUpTo d m,Op.bytesLess x d[m]! = true:=by
    intro x hx;obtain ⟨j,hj,rfl⟩:=(h2 x).1 hx
    have hne:d[m]!≠d[m - 1]!:=by
     intro e;rw [Lib.keeps_neg (by omega) e] at hk;cases hk
    have h3:Op.bytesLess d[m - 1]! d[m]! = true:=by
     rcases less_total d[m]! d[m - 1]! with h | h | h
     ·rw [hs (m - 1) m (by omega) (by omega)] at h;cases h
     ·exact absurd h hne
     ·exact h
    rcases less_total d[j]! d[m - 1]! with h | h | h
    ·exact less_trans h h3
    ·rw [h];exact h3
    ·rw [hs j (m - 1) (by omega) (by omega)] at h;cases h
   refine ⟨?_,fun x => ?_⟩
   ·rw [List.pairwise_append]
    refine ⟨h1,List.pairwise_singleton _ _,fun a ha b hb => ?_⟩;rw [List.mem_singleton] at hb;rw [hb];exact hlast a ha
   ·rw [List.mem_append,List.mem_singleton,h2]
    constructor
    ·rintro (⟨j,hj,e⟩ | e)
     ·exact ⟨j,by omega,e⟩
     ·exact ⟨m,by omega,e.symm⟩
    ·rintro ⟨j,hj,e⟩
     by_cases hjm:j = m
     ·subst hjm;exact .inr e.symm
     ·exact .inl ⟨j,by omega,e⟩
  ·rw [if_neg hk,List.append_nil]
   refine ⟨h1,fun x => ?_⟩;rw [h2]
   constructor
   ·rintro ⟨j,hj,e⟩;exact ⟨j,by omega,e⟩
   ·rintro ⟨j,hj,e⟩
    by_cases hjm:j = m
    ·subst hjm
     by_cases h0:j = 0
     ·subst h0
      exact absurd (Lib.keeps_lt_one d 0 (by omega)) hk
     ·refine ⟨j - 1,by omega,?_⟩
      by_cases he:d[j]! = d[j - 1]!
      ·rw [← he];exact e
      ·exact absurd (Lib.keeps_pos he) hk
    ·exact ⟨j,by omega,e⟩
theorem compact_sorted (ss:List (List UInt8)):(Lib.compact (ss.mergeSort fun x y => decide (x≤y))).Pairwise (fun x y => Op.bytesLess x y = true)∧∀ x,x∈Lib.compact (ss.mergeSort fun x y => decide (x≤y))↔x∈ss:=by
  have tr:∀ a b c:List UInt8,decide (a≤b) = true→decide (b≤c) = true→decide (a≤c) = true:=fun a b c h1 h2 => by
    simp only [decide_eq_true_eq] at *;exact List.le_trans h1 h2
  have tot:∀ a b:List UInt8,(decide (a≤b) || decide (b≤a)) = true:=fun a b => by
    simp only [Bool.or_eq_true,decide_eq_true_eq];exact List.le_total a b
  have hp:=List.pairwise_mergeSort tr tot ss
  have hperm:=List.mergeSort_perm ss fun x y => decide (x≤y)
  generalize (ss.mergeSort fun x y => decide (x≤y)) = zs at *
  have hs:∀ i j,i≤j→j < zs.toArray.size→Op.bytesLess zs.toArray[j]! zs.toArray[i]! = false:=by
    intro i j hij hj
    simp only [List.size_toArray] at hj
    have e:∀ k,k < zs.length→zs.toArray[k]! = zs[k]!:=fun k hk => by simp
    rw [e j hj,e i (by omega),getElem!_pos zs j hj,getElem!_pos zs i (by omega)]
    by_cases h:i = j
    · subst h;exact less_irrefl _
    · have:=List.pairwise_iff_getElem.1 hp i j (by omega) hj (by omega)
      simp only [decide_eq_true_eq] at this
      rw [bytesLess_eq,decide_eq_false_iff_not]
      exact List.not_lt.2 this
  obtain ⟨h1,h2⟩:=compactUpTo_spec zs.toArray hs zs.toArray.size (Nat.le_refl _)
  have e:Lib.compactUpTo zs.toArray zs.toArray.size = Lib.compact zs:=by simp [Lib.compact]
  rw [e] at h1 h2
  refine ⟨h1,fun x => ?_⟩
  rw [h2,← hperm.mem_iff,List.mem_iff_getElem]
  simp only [List.size_toArray]
  constructor
  · rintro ⟨j,hj,e⟩
    refine ⟨j,hj,?_⟩
    rw [← e]
    simp [hj]
  · rintro ⟨j,hj,e⟩
    refine ⟨j,hj,?_⟩
    rw [← e]
    simp [hj]
def ofL (l:List UInt8):ByteArray:=⟨l.toArray⟩
theorem ofL_data (l:List UInt8):(ofL l).data.toList = l:=by simp [ofL]
theorem ofL_of (s:ByteArray):ofL s.data.toList = s:=ba_eq (ofL_data _)
theorem labels_sorted (ns:List ByteArray):((Lib.compact ((ns.map fun s => s.data.toList).mergeSort fun x y => decide (x≤y))).map ofL).Pairwise ltS∧∀ x,x∈(Lib.compact ((ns.map fun s => s.data.toList).mergeSort fun x y => decide (x≤y))).map ofL↔x∈ns:=by
  obtain ⟨h1,h2⟩:=compact_sorted (ns.map fun s => s.data.toList)
  refine ⟨?_,fun x => ?_⟩
  · rw [List.pairwise_map]
    refine h1.imp fun {a b} h => ?_
    unfold ltS
    rw [ofL_data,ofL_data]
    exact h
  · rw [List.mem_map]
    constructor
    · rintro ⟨l,hl,rfl⟩
      obtain ⟨s,hs,e⟩:=List.mem_map.1 ((h2 l).1 hl)
      subst e
      rw [ofL_of]
      exact hs
    · intro hx
      exact ⟨_,(h2 _).2 (List.mem_map.2 ⟨x,hx,rfl⟩),ofL_of x⟩
theorem firstNZ_zero:∀ {l:List Int},firstNZ l = 0↔∀ x∈l,x = 0
 | [] => by simp [firstNZ]
 | a :: r => by
  rw [firstNZ];split
  ·rename_i h;rw [firstNZ_zero];simp [h]
  ·rename_i h;simp [h]
theorem nz_zero {f:Nat→Int} {n:Nat}:nzFrom f n 0 = 0↔∀ k,k < n→f k = 0:=by
 unfold nzFrom;rw [List.drop_zero,firstNZ_zero];simp
structure ValM (m:OMod):Prop where
  label:labelS m.label = true
  uses:m.uses.Pairwise ltS
  ulen:m.uses.length≤20
  ulab:∀ s∈m.uses,labelS s = true
  uerr:∀ i,i < m.uses.length→useErr m.label m.uses i = 0
  dlen:m.decls.length≤100
  ids:m.decls.Pairwise fun a b => a.id < b.id
  decl:∀ d∈m.decls,declErr m.label d = 0
theorem pairwise_next {α:Type} {R:α→α→Prop} (htr:∀ a b c,R a b→R b c→R a c):∀ {l:List α},(∀ (i:Nat) (a b:α),l[i]? = some a→l[i + 1]? = some b→R a b)→l.Pairwise R
 | [],_ => List.Pairwise.nil
 | [a],_ => List.pairwise_singleton _ _
 | a :: b :: l,h => by
  have ih:(b :: l).Pairwise R:=pairwise_next htr (fun i x y hx hy => h (i + 1) x y (by simpa using hx) (by simpa using hy));have hab:=h 0 a b rfl rfl;refine List.pairwise_cons.2 ⟨fun c hc => ?_,ih⟩
  rcases List.mem_cons.1 hc with rfl | hc
  ·exact hab
  ·exact htr _ _ _ hab ((List.pairwise_cons.1 ih).1 c hc)
theorem sAt_some {l:List ByteArray} {i:Nat} {a:ByteArray} (h:l[i]? = some a):sAt l i = a:=by
 obtain ⟨h1,rfl⟩:=List.getElem?_eq_some_iff.1 h;exact sAt_of h1
theorem valM {m:OMod} (h:modErr m = 0):ValM m:=by
 unfold modErr at h;split at h
 ·rename_i hl
  split at h
  ·rename_i hu
   split at h
   ·rename_i hue
    split at h
    ·omega
    ·rename_i hd
     unfold usesErr at hu;split at hu
     ·omega
     ·rename_i hul
      rw [nz_zero] at hu h hue
      have hu':∀ i,i < m.uses.length→labelS (sAt m.uses i) = true∧(0 < i→Op.bytesLess (sAt m.uses (i - 1)).toList (sAt m.uses i).toList = true):=by
       intro i hi;have:=hu i hi;unfold useAt at this;split at this
       ·rename_i h1
        split at this
        ·omega
        ·rename_i h2
         exact ⟨h1,fun h0 => by rw [← Bool.not_eq_false];exact fun e => h2 ⟨h0,e⟩⟩
       ·omega
      have hd':∀ k,k < m.decls.length→declErr m.label (dAt m.decls k) = 0∧(0 < k→(dAt m.decls (k - 1)).id < (dAt m.decls k).id):=by
       intro k hk;have:=h k hk;unfold declAt at this;split at this
       ·rename_i h1
        split at this
        ·omega
        ·rename_i h2
         exact ⟨h1,fun h0 => by have:=fun e => h2 ⟨h0,e⟩;omega⟩
       ·rename_i h1;exact absurd this h1
      refine ⟨hl,?_,by omega,?_,hue,by omega,?_,?_⟩
      ·refine pairwise_next (R:=ltS) (fun a b c h k => ltS_trans h k) (fun i a b ha hb => ?_)
       have hi:i + 1 < m.uses.length:=(List.getElem?_eq_some_iff.1 hb).1;have:=(hu' (i + 1) hi).2 (by omega);rw [Nat.add_sub_cancel,sAt_some ha,sAt_some hb,tl,tl] at this;exact this
      ·intro s hs
       obtain ⟨i,hi,rfl⟩:=List.mem_iff_getElem.1 hs;have:=(hu' i hi).1;rwa [sAt_of hi] at this
      ·refine pairwise_next (fun a b c h1 h2 => by omega) (fun i a b ha hb => ?_)
       have hi:i + 1 < m.decls.length:=(List.getElem?_eq_some_iff.1 hb).1;have:=(hd' (i + 1) hi).2 (by omega);rwa [Nat.add_sub_cancel,dAt_of ha,dAt_of hb] at this
      ·intro d hdm
       obtain ⟨i,hi,rfl⟩:=List.mem_iff_getElem.1 hdm;have:=(hd' i hi).1;rwa [dAt_of (List.getElem?_eq_getElem hi)] at this
   ·rename_i hue;exact absurd h hue
  ·rename_i hu;exact absurd h hu
 ·omega
theorem decl_ok {label:ByteArray} {d:ODecl} (h:declErr label d = 0):1≤d.id∧d.id≤999999∧namesErr d.names = 0∧exprErr d.body = 0:=by
 unfold declErr at h;split at h
 ·omega
 ·split at h
  ·rename_i h1 h2
   unfold rDeclErr at h2;split at h2
   ·omega
   ·split at h2
    ·omega
    ·split at h2
     ·rename_i h3 h4 h5
      exact ⟨by omega,by omega,h5,h2⟩
     ·rename_i h3 h4 h5;exact absurd h2 h5
  ·rename_i h1 h2;exact absurd h h2
theorem valM_alias {m:OMod} (h:ValM m):aliasDup m.uses = false:=by
 rw [← Bool.not_eq_true];intro hd;unfold aliasDup at hd;rw [List.any_eq_true] at hd;obtain ⟨i,hi,hk⟩:=hd;rw [List.any_eq_true] at hk;obtain ⟨k,hk,he⟩:=hk;rw [List.mem_range] at hi hk;have:=h.uerr i hi;unfold useErr at this;split at this
 ·have hdup:dupB m.uses i = true:=List.any_eq_true.2 ⟨k,List.mem_range.2 hk,he⟩
  rw [hdup,if_pos rfl] at this;omega
 ·omega
theorem insI_spec {l:List Int} (x:Int) (hp:l.Pairwise (· < ·)):(insI l x).Pairwise (· < ·)∧∀ y,y∈insI l x↔y = x∨y∈l:=by
 have hsplit:∀ y,y∈l↔y∈l.takeWhile (fun y => decide (y < x))∨y∈l.dropWhile (fun y => decide (y < x)):=fun y => by
  rw [← List.mem_append,List.takeWhile_append_dropWhile]
 have h1:∀ y∈l.takeWhile (fun y => decide (y < x)),y < x:=fun y hy => by
  have:=List.all_takeWhile (p:=fun y => decide (y < x)) (l:=l);rw [List.all_eq_true] at this;exact of_decide_eq_true (this y hy)
 have hp':=hp;rw [← List.takeWhile_append_dropWhile (p:=fun y => decide (y < x)) (l:=l)] at hp';obtain ⟨hp1,hp2,hp3⟩:=List.pairwise_append.1 hp'
 have h2:∀ y,(l.dropWhile (fun y => decide (y < x))).head? = some y→¬ y < x:=fun y hy => by
  have:=List.head?_dropWhile_not (fun y => decide (y < x)) l;rw [hy] at this
  simpa using this
 unfold insI;split
 ·rename_i hc
  refine ⟨hp,fun y => ⟨fun h => .inr h,fun h => h.elim (fun e => ?_) id⟩⟩;rw [e,hsplit];exact .inr (List.mem_of_mem_head? hc)
 ·rename_i hc
  have h3:∀ y∈l.dropWhile (fun y => decide (y < x)),x < y:=by
   intro y hy
   cases hd:l.dropWhile (fun y => decide (y < x)) with
   | nil => rw [hd] at hy;cases hy
   | cons a r =>
    rw [hd] at hy hp2 h2 hc;have ha:=h2 a rfl;have hne:a≠x:=fun e => hc (by rw [e];rfl)
    rcases List.mem_cons.1 hy with rfl | hy
    ·omega
    ·have:=(List.pairwise_cons.1 hp2).1 y hy
     omega
  refine ⟨?_,fun y => ?_⟩
  ·rw [List.pairwise_append,List.pairwise_append]
   refine ⟨⟨hp1,List.pairwise_singleton _ _,fun a ha b hb => ?_⟩,hp2,fun a ha b hb => ?_⟩
   ·rw [List.mem_singleton] at hb;rw [hb];exact h1 a ha
   ·rcases List.mem_append.1 ha with ha | ha
    ·exact hp3 a ha b hb
    ·rw [List.mem_singleton] at ha;rw [ha];exact h3 b hb
  ·rw [List.mem_append,List.mem_append,List.mem_singleton,hsplit y]
   constructor
   ·rintro ((h | h) | h)
    ·exact .inr (.inl h)
    ·exact .inl h
    ·exact .inr (.inr h)
   ·rintro (h | h | h)
    ·exact .inl (.inr h)
    ·exact .inl (.inl h)
    ·exact .inr h
theorem idsD_spec:∀ (ds:List ODecl) {l:List Int},l.Pairwise (· < ·)→(idsD l ds).Pairwise (· < ·)∧∀ y,y∈idsD l ds↔y∈l∨∃ d∈ds,d.id = y
 | [],l,hp => ⟨hp,fun y => by show y∈l↔_;simp⟩
 | d :: ds,l,hp => by
  obtain ⟨h1,h2⟩:=insI_spec d.id hp;obtain ⟨h3,h4⟩:=idsD_spec ds h1;refine ⟨h3,fun y => ?_⟩;show y∈idsD (insI l d.id) ds↔_
  rw [h4,h2]
  constructor
  ·rintro ((h | h) | ⟨e,he,h⟩)
   ·exact .inr ⟨d,List.mem_cons_self ..,h.symm⟩
   ·exact .inl h
   ·exact .inr ⟨e,List.mem_cons_of_mem _ he,h⟩
  ·rintro (h | ⟨e,he,h⟩)
   ·exact .inl (.inr h)
   ·rcases List.mem_cons.1 he with rfl | he
    ·exact .inl (.inl h.symm)
    ·exact .inr ⟨e,he,h⟩
theorem idsM_spec (b l r:OMod):(idsM b l r).Pairwise (· < ·)∧∀ y,y∈idsM b l r↔(∃ d∈b.decls,d.id = y)∨(∃ d∈l.decls,d.id = y)∨∃ d∈r.decls,d.id = y:=by
 obtain ⟨h1,h2⟩:=idsD_spec b.decls (l:=[]) List.Pairwise.nil;obtain ⟨h3,h4⟩:=idsD_spec l.decls h1;obtain ⟨h5,h6⟩:=idsD_spec r.decls h3;refine ⟨h5,fun y => ?_⟩;show y∈idsD (idsD (idsD [] b.decls) l.decls) r.decls↔_
 rw [h6,h4,h2];simp [or_assoc]
theorem findD_id {l:List ODecl} {i:Int} {d:ODecl} (h:findD l i = some d):d.id = i∧d∈l:=by
 unfold findD at h;exact ⟨by simpa using List.find?_some h,List.mem_of_find?_eq_some h⟩
theorem findD_none {l:List ODecl} {i:Int} (h:findD l i = none):∀ d∈l,d.id≠i:=by
 unfold findD at h;rw [List.find?_eq_none] at h;intro d hd e;exact h d hd (by simpa using e)
theorem findD_of {l:List ODecl} (hp:l.Pairwise fun a b => a.id < b.id) {d:ODecl} (hd:d∈l):findD l d.id = some d:=by
 cases h:findD l d.id with
 | none => exact absurd rfl (findD_none h d hd)
 | some e =>
  obtain ⟨h1,h2⟩:=findD_id h;obtain ⟨i,hi,rfl⟩:=List.mem_iff_getElem.1 hd;obtain ⟨j,hj,rfl⟩:=List.mem_iff_getElem.1 h2;have hpw:=List.pairwise_iff_getElem.1 hp
  by_cases hij:i < j
  ·have:=hpw i j hi hj hij;omega
  ·by_cases hji:j < i
   ·have:=hpw j i hj hi hji;omega
   ·have:i = j:=by omega
    subst this;rfl
theorem decls_unique {l m:List ODecl} (hl:l.Pairwise fun a b => a.id < b.id) (hm:m.Pairwise fun a b => a.id < b.id) (h:∀ x,x∈l↔x∈m):l = m:=by
  have nd:∀ {l:List ODecl},(l.Pairwise fun a b => a.id < b.id)→l.Nodup:=fun hp => hp.imp fun {a b} h e => by subst e;omega
  exact List.Perm.eq_of_pairwise (le:=fun a b => a.id < b.id) (fun a b _ _ h1 h2 => by omega) hl hm ((List.perm_ext_iff_of_nodup (nd hl) (nd hm)).2 h)
theorem mergeD_id {b l r:List ODecl} {i:Int} {d:ODecl} (h:mergeD (findD b i) (findD l i) (findD r i) = some d):d.id = i:=by
 cases hl:findD l i with
 | none =>
  cases hr:findD r i with
  | none => rw [hl,hr] at h;cases h
  | some y =>
   rw [hl,hr] at h;unfold mergeD oneD at h
   cases hb:findD b i with
   | none => rw [hb] at h;simp at h;rw [← h];exact (findD_id hr).1
   | some x => rw [hb] at h;simp at h;rw [← h.2];exact (findD_id hr).1
 | some y =>
  cases hr:findD r i with
  | none =>
   rw [hl,hr] at h;unfold mergeD oneD at h
   cases hb:findD b i with
   | none => rw [hb] at h;simp at h;rw [← h];exact (findD_id hl).1
   | some x => rw [hb] at h;simp at h;rw [← h.2];exact (findD_id hl).1
  | some z =>
   rw [hl,hr] at h;unfold mergeD at h;simp at h
   rw [← h];exact (findD_id hl).1
theorem declsM_ids (b l r:List ODecl) {ids:List Int} (hp:ids.Pairwise (· < ·)):(declsM b l r ids).Pairwise fun a b => a.id < b.id:=by
 unfold declsM;refine List.Pairwise.filterMap _ (fun a a' hlt x hx y hy => ?_) hp;rw [mergeD_id hx,mergeD_id hy];exact hlt
theorem mem_declsM {b l r:List ODecl} {ids:List Int} {d:ODecl}:d∈declsM b l r ids↔d.id∈ids∧mergeD (findD b d.id) (findD l d.id) (findD r d.id) = some d:=by
 unfold declsM;rw [List.mem_filterMap]
 constructor
 ·rintro ⟨i,hi,h⟩
  have:=mergeD_id h;subst this;exact ⟨hi,h⟩
 ·rintro ⟨hi,h⟩;exact ⟨_,hi,h⟩
theorem declsErr_zero {b l r:List ODecl}:∀ {ids:List Int},(∀ i∈ids,mergeDErr (findD b i) (findD l i) (findD r i) = 0)→declsErrM b l r ids = 0
 | [],_ => by rw [declsErrM]
 | i :: s,h => by
  rw [declsErrM,if_pos (h i (List.mem_cons_self ..))];exact declsErr_zero fun j hj => h j (List.mem_cons_of_mem _ hj)
theorem mergeX_both (x y:Ex):mergeX x y y = y:=by
 rw [mergeX_eq,if_pos (by rw [Bool.or_eq_true];exact .inl ((sameX_iff y y).2 rfl))]
theorem namesM_both (x y:List ByteArray):namesM x y y = y:=by
 unfold namesM;rw [if_pos (by rw [Bool.or_eq_true];exact .inl (sameSs_iff.2 rfl))]
theorem sameSs_self (x:List ByteArray):sameSs x x = true:=sameSs_iff.2 rfl
theorem bothM_both (x y:ODecl):bothM x y y = y:=by
 obtain ⟨i,k,p,n,q,b⟩:=x;obtain ⟨i',k',p',n',q',b'⟩:=y;simp only [bothM,mergeX_both,namesM_both,ODecl.mk.injEq,true_and,and_true]
 refine ⟨?_,?_,?_⟩
 ·unfold kindM;simp
 ·cases p <;> cases p' <;> rfl
 ·unfold kindC;cases q <;> cases q' <;> simp [truthB]
theorem mergeXErr_of {b l r:Ex} (hb:exprErr b = 0) (hl:exprErr l = 0) (hr:exprErr r = 0) (h:exprErr (mergeX b l r) = 0):mergeXErr b l r = 0:=by
 unfold mergeXErr;rw [if_pos hb,if_pos hl,if_pos hr,if_pos h]
theorem mergeMErr_of {b l r:OMod} (hb:modErr b = 0) (hl:modErr l = 0) (hr:modErr r = 0) (e1:b.label = l.label) (e2:b.label = r.label) (hu:(usesM b.uses l.uses r.uses).length≤20) (ha:aliasDup (usesM b.uses l.uses r.uses) = false)
  (hd:declsErrM b.decls l.decls r.decls (idsM b l r) = 0) (hn:(declsM b.decls l.decls r.decls (idsM b l r)).length≤100):mergeMErr b l r = 0∧mergeM b l r = outM b l r:=by
 have:mergeMErr b l r = 0:=by
  unfold mergeMErr;rw [if_pos hb,if_pos hl,if_pos hr,if_pos (by rw [← e1,← e2,eqS_self];rfl),if_pos hu,ha,if_neg Bool.false_ne_true,if_pos hd,if_pos hn]
 exact ⟨this,by unfold mergeM;rw [if_pos this]⟩
theorem uses_one {b l r s:List ByteArray} (hs:s.Pairwise ltS) (h:∀ x,((x∈l∨x∈r)∧truthB (memS x b) (memS x l) (memS x r) = true)↔x∈s):usesM b l r = s:=by
 obtain ⟨h1,h2⟩:=withAll_spec (l ++ r) [] List.Pairwise.nil;refine sorted_unique (h1.filter _) hs (fun x => ?_);rw [show usesM b l r = (withAll [] (l ++ r)).filter fun s => truthB (memS s b) (memS s l) (memS s r) from rfl,List.mem_filter,h2,List.mem_append,← h x];simp
theorem mem_false {s:ByteArray} {l:List ByteArray} (h:s ∉ l):memS s l = false:=by rw [← Bool.not_eq_true];exact fun k => h (memS_iff.1 k)
theorem uses_both (b:List ByteArray) {s:List ByteArray} (hs:s.Pairwise ltS):usesM b s s = s:=uses_one hs fun x => by
 by_cases h1:x∈b
 ·by_cases h2:x∈s
  ·simp [memS_iff.2 h1,memS_iff.2 h2,h2,truthB]
  ·simp [h2]
 ·by_cases h2:x∈s
  ·simp [mem_false h1,memS_iff.2 h2,h2,truthB]
  ·simp [h2]
theorem merge_is {b l r s:OMod} (hb:modErr b = 0) (hl:modErr l = 0) (hr:modErr r = 0) (hs:modErr s = 0) (e1:b.label = l.label) (e2:b.label = r.label) (e3:b.label = s.label) (hu:usesM b.uses l.uses r.uses = s.uses)
    (hd:∀ i,mergeD (findD b.decls i) (findD l.decls i) (findD r.decls i) = findD s.decls i∧mergeDErr (findD b.decls i) (findD l.decls i) (findD r.decls i) = 0)
    (hi:∀ d∈s.decls,d.id∈idsM b l r):mergeMErr b l r = 0∧mergeM b l r = s:=by
  have V:=valM hs
  have hds:declsM b.decls l.decls r.decls (idsM b l r) = s.decls:=by
    refine decls_unique (declsM_ids _ _ _ (idsM_spec b l r).1) V.ids (fun x => ?_)
    rw [mem_declsM,(hd x.id).1]
    constructor
    · rintro ⟨_,h⟩;exact (findD_id h).2
    · intro h;exact ⟨hi x h,findD_of V.ids h⟩
  obtain ⟨h1,h2⟩:=mergeMErr_of hb hl hr e1 e2 (by rw [hu];exact V.ulen) (by rw [hu];exact valM_alias V) (declsErr_zero fun i _ => (hd i).2) (by rw [hds];exact V.dlen)
  refine ⟨h1,?_⟩
  rw [h2]
  unfold outM
  rw [hu,hds,e3]
theorem find_ok {m:OMod} (h:modErr m = 0) {i:Int} {d:ODecl} (hf:findD m.decls i = some d):exprErr d.body = 0∧d.id = i:=by
 obtain ⟨h1,h2⟩:=findD_id hf;exact ⟨(decl_ok ((valM h).decl d h2)).2.2.2,h1⟩
theorem bothErr_of {b l r:ODecl} (hn:(sameSs l.names r.names || sameSs r.names b.names || sameSs l.names b.names) = true) (hx:mergeXErr b.body l.body r.body = 0):bothErr b l r = 0:=by
 unfold bothErr namesC;rw [hn];exact hx
mutual
def confX:Ex→Nat
 | .mk k _ _ _ _ s => (if k = 15 then 1 else 0) + confL s
def confL:List Ex→Nat
 | [] => 0
 | x :: r => confX x + confL r
end
theorem confX_eq (x:Ex):confX x = (if x.kind = 15 then 1 else 0) + confL x.subs:=by cases x;rw [confX];rfl
structure OSpot where
 pack:ByteArray
 kind:Int
 id:Int
 pos:Int
def clashB (prev:List ODecl) (d:ODecl):Bool:=decide (d.names.length = 1) && prev.any fun e => sameSs e.names d.names
def spotsD (label:ByteArray) (prev:List ODecl) (d:ODecl):List OSpot:=
 (if d.names.length = 3 then [⟨label,1,d.id,0⟩] else []) ++ (List.range (confX d.body)).map (fun k => ⟨label,2,d.id,(k:Int)⟩) ++ (if d.doubt then [⟨label,3,d.id,0⟩] else []) ++ (if clashB prev d then [⟨label,4,d.id,0⟩] else [])
def spotsTo (label:ByteArray) (ds:List ODecl) (i:Nat):List OSpot:=(List.range i).flatMap fun i => spotsD label (ds.take i) (dAt ds i)
def spotsL (label:ByteArray) (ds:List ODecl):List OSpot:=spotsTo label ds ds.length
theorem spotsTo_zero (label:ByteArray) (ds:List ODecl):spotsTo label ds 0 = []:=rfl
theorem spotsTo_succ (label:ByteArray) (ds:List ODecl) (i:Nat):spotsTo label ds (i + 1) = spotsTo label ds i ++ spotsD label (ds.take i) (dAt ds i):=by
 unfold spotsTo;rw [List.range_succ,List.flatMap_append];simp
def cleanB (m:OMod):Bool:=decide (modErr m = 0) && (spotsL m.label m.decls).isEmpty
structure CleanD (d:ODecl):Prop where
  names:d.names.length = 1
  body:confX d.body = 0
  doubt:d.doubt = false
theorem spotsD_nil {label:ByteArray} {prev:List ODecl} {d:ODecl}:spotsD label prev d = []↔d.names.length≠3∧confX d.body = 0∧d.doubt = false∧clashB prev d = false:=by
 unfold spotsD
 by_cases h1:d.names.length = 3
 ·simp [h1]
 ·by_cases h2:confX d.body = 0
  ·cases h3:d.doubt <;> cases h4:clashB prev d <;> simp [h1,h2]
  ·have:(List.range (confX d.body)).map (fun k:Nat => (⟨label,2,d.id,(k:Int)⟩:OSpot))≠[]:=by simp [h2]
   simp [h2]
theorem spotsL_nil {label:ByteArray} {ds:List ODecl}:spotsL label ds = []↔∀ i d,ds[i]? = some d→spotsD label (ds.take i) d = []:=by
 unfold spotsL spotsTo;rw [List.flatMap_eq_nil_iff]
 constructor
 ·intro h i d hd
  have hi:i < ds.length:=(List.getElem?_eq_some_iff.1 hd).1;have:=h i (List.mem_range.2 hi);rwa [dAt_of hd] at this
 ·intro h i hi
  rw [List.mem_range] at hi;have:=h i ds[i] (List.getElem?_eq_getElem hi);rwa [dAt_of (List.getElem?_eq_getElem hi)]
theorem names_len {l:List ByteArray} (h:namesErr l = 0):l.length = 1∨l.length = 3:=by
 unfold namesErr at h;split at h
 ·omega
 ·omega
theorem cleanB_ok {m:OMod} (h:cleanB m = true):modErr m = 0∧∀ d∈m.decls,CleanD d:=by
 unfold cleanB at h;rw [Bool.and_eq_true,List.isEmpty_iff] at h;have h1:=of_decide_eq_true h.1;refine ⟨h1,fun d hd => ?_⟩;obtain ⟨i,hi,rfl⟩:=List.mem_iff_getElem.1 hd;obtain ⟨a1,a2,a3,a4⟩:=spotsD_nil.1 (spotsL_nil.1 h.2 i _ (List.getElem?_eq_getElem hi));have:=names_len (decl_ok ((valM h1).decl _ hd)).2.2.1;exact ⟨by omega,a2,a3⟩
theorem firstE_of {l:List Ex} (h:∀ y∈l,nodeErr y = 0):firstE l = 0:=by
 induction l with
 | nil => rfl
 | cons x r ih => rw [firstE,if_pos (h x (List.mem_cons_self ..)),ih fun y hy => h y (List.mem_cons_of_mem _ hy)]
theorem exprErr_iff {x:Ex}:exprErr x = 0↔nodesN x≤400∧depthN x≤40∧ValX x:=by
 constructor
 ·intro h
  have hv:=exprErr_val h;rw [exprErr] at h;split at h
  ·omega
  ·exact ⟨by omega,by omega,hv⟩
 ·rintro ⟨h1,h2,h3⟩
  rw [exprErr,if_neg (by omega)];exact firstE_of h3
theorem same_diff {x y:Ex} (h:x≠y):sameX x y = false:=by rw [← Bool.not_eq_true];exact fun k => h ((sameX_iff _ _).1 k)
theorem findD_not {l:List ODecl} {i:Int} (h:¬ ∃ d∈l,d.id = i):findD l i = none:=by
 cases hf:findD l i with
 | none => rfl
 | some d => obtain ⟨h1,h2⟩:=findD_id hf;exact absurd ⟨d,h2,h1⟩ h
theorem valM_mod {m:OMod} (V:ValM m):modErr m = 0:=by
 have hu:usesErr m.uses = 0:=by
  unfold usesErr;rw [if_neg (by have:=V.ulen;omega),nz_zero];intro k hk;unfold useAt;rw [if_pos (by rw [sAt_of hk];exact V.ulab _ (List.getElem_mem hk)),if_neg];rintro ⟨h0,h⟩;have:=List.pairwise_iff_getElem.1 V.uses (k - 1) k (by omega) hk (by omega);rw [sAt_of hk,sAt_of (show k - 1 < m.uses.length by omega),tl,tl] at h;unfold ltS at this;rw [h] at this
  cases this
 have hue:nzFrom (useErr m.label m.uses) m.uses.length 0 = 0:=nz_zero.2 V.uerr;unfold modErr;rw [if_pos V.label,if_pos hu,if_pos hue,if_neg (by have:=V.dlen;omega),nz_zero];intro k hk;unfold declAt;rw [dAt_of (List.getElem?_eq_getElem hk),if_pos (V.decl _ (List.getElem_mem hk)),if_neg];rintro ⟨h0,h⟩;rw [dAt_of (List.getElem?_eq_getElem (show k - 1 < m.decls.length by omega))] at h;have:=List.pairwise_iff_getElem.1 V.ids (k - 1) k (by omega) hk (by omega);omega
theorem freeOf_zero {x:Ex} (h:exprErr x = 0):(freeOf x).length = 0↔freeN x [] = []:=by
 unfold freeOf;rw [if_pos h,List.length_eq_zero_iff];exact ⟨fun h => (withAll_nil h).2,fun h => by rw [h];rfl⟩
structure DeclOk (label:ByteArray) (d:ODecl):Prop where
  id1:1≤d.id
  id2:d.id≤999999
  k1:1≤d.kind
  k2:d.kind≤3
  names:namesErr d.names = 0
  body:exprErr d.body = 0
  sym:anyX (kindP 4) d.body = false
  free:freeN d.body [] = []
  refs:anyX (refP label) d.body = false
theorem declErr_iff {label:ByteArray} {d:ODecl}:declErr label d = 0↔DeclOk label d:=by
 constructor
 ·intro h
  obtain ⟨a1,a2,a3,a4⟩:=decl_ok h;unfold declErr at h;rw [if_neg (by omega)] at h
  have hr:rDeclErr d = 0:=by
   split at h
   ·assumption
   ·rename_i h';exact absurd h h'
  rw [if_pos hr] at h;unfold rDeclErr at hr;split at hr
  ·omega
  ·split at hr
   ·omega
   ·split at h
    ·omega
    ·split at h
     ·split at h
      ·omega
      ·rename_i h1 h2 h3 h4 h5
       exact ⟨a1,a2,by omega,by omega,a3,a4,by simpa using h3,(freeOf_zero a4).1 h4,by simpa using h5⟩
     ·omega
 ·intro D
  have hr:rDeclErr d = 0:=by
   unfold rDeclErr;rw [if_neg (by have:=D.id1;have:=D.id2;omega),if_neg (by have:=D.k1;have:=D.k2;omega),if_pos D.names];exact D.body
  unfold declErr;rw [if_neg (by have:=D.id1;omega),if_pos hr,D.sym,if_neg Bool.false_ne_true,if_pos ((freeOf_zero D.body).2 D.free),D.refs,if_neg Bool.false_ne_true]
theorem name_ok {s:ByteArray} (h:namesErr [s] = 0):nmS s = true:=by
 unfold namesErr at h;rw [if_neg (by simp),nz_zero] at h;have:=h 0 (by simp);unfold nmAt badNm at this;have e:sAt [s] 0 = s:=rfl;rw [e] at this
 cases hn:nmS s with
 | true => rfl
 | false => rw [hn] at this;simp at this
theorem DeclOk.doubt {label:ByteArray} {d:ODecl} (h:DeclOk label d):DeclOk label (doubtD d):=⟨h.id1,h.id2,h.k1,h.k2,h.names,h.body,h.sym,h.free,h.refs⟩
def setD (m:OMod) (k:Nat) (e:ODecl):OMod:=⟨m.label,m.uses,m.decls.set k e⟩
def bodyD (d:ODecl) (x:Ex) (p:Bool):ODecl:=⟨d.id,d.kind,p,d.names,d.doubt,x⟩
theorem ids_set {l:List ODecl} {k:Nat} {d e:ODecl} (hd:l[k]? = some d) (he:e.id = d.id) (hp:l.Pairwise fun a b => a.id < b.id):(l.set k e).Pairwise fun a b => a.id < b.id:=by
 obtain ⟨hk,rfl⟩:=List.getElem?_eq_some_iff.1 hd;have h1:(l.map (·.id)).Pairwise (· < ·):=List.pairwise_map.2 hp
 have h2:(l.set k e).map (·.id) = l.map (·.id):=by
  rw [List.map_set,he];apply List.ext_getElem?
  intro j;rw [List.getElem?_set];split
  ·rename_i h;subst h;simp [hk]
  ·rfl
 rw [← h2] at h1;exact List.pairwise_map.1 h1
theorem find_set {l:List ODecl} {k:Nat} {d e:ODecl} (hd:l[k]? = some d) (he:e.id = d.id) (hp:l.Pairwise fun a b => a.id < b.id) (i:Int):findD (l.set k e) i = if i = d.id then some e else findD l i:=by
 have hp':=ids_set hd he hp;obtain ⟨hk,hdk⟩:=List.getElem?_eq_some_iff.1 hd;split
 ·rename_i h
  rw [h,← he];exact findD_of hp' (List.mem_iff_getElem.2 ⟨k,by simpa using hk,by simp⟩)
 ·rename_i h
  cases hf:findD l i with
  | some x =>
   obtain ⟨g1,g2⟩:=findD_id hf;obtain ⟨j,hj,rfl⟩:=List.mem_iff_getElem.1 g2;have hjk:k≠j:=fun e => by subst e;rw [hdk] at g1;omega
   rw [← g1];refine findD_of hp' (List.mem_iff_getElem.2 ⟨j,by simpa using hj,?_⟩);rw [List.getElem_set_ne hjk]
  | none =>
   refine findD_not ?_;rintro ⟨x,hx,hxi⟩
   rcases List.mem_or_eq_of_mem_set hx with hx | hx
   ·exact findD_none hf x hx hxi
   ·rw [hx,he] at hxi;exact h hxi.symm
theorem set_mem {l:List ODecl} {k:Nat} {d e:ODecl} (hd:l[k]? = some d):e∈l.set k e:=by
 obtain ⟨hk,_⟩:=List.getElem?_eq_some_iff.1 hd;exact List.mem_iff_getElem.2 ⟨k,by simpa using hk,by simp⟩
end Go.Proofs.YtdpnfkjafhbndaaGreatDoor

