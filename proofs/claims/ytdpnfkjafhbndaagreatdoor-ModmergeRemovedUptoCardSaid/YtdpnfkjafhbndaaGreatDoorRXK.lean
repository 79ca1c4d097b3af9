/- slices.Concat, Sort and Compact over strings. modmerge.mergeUses. -/
import Derived.Test.YtdpnfkjafhbndaaGreatDoorRR7
import Derived.Test.YtdpnfkjafhbndaaGreatDoorRShT
import Derived.Test.YtdpnfkjafhbndaaGreatDoorRNC
import Derived.Test.YtdpnfkjafhbndaaGreatDoorRXG
import Derived.BigQuiet
namespace Go.Proofs.YtdpnfkjafhbndaaGreatDoor
open Go.RowKit Go.Shelf
attribute [local go_sem] Oper.semAt_some
theorem GrowS_any (n:Nat) (hn:n≤4000000) (w:World) :
  Calls Tryz.prog 212 #[.slice none 0 0,.int .i64 n] w fun e w' => ∃ v,e = .returned v∧w'.ownsRow w.heap.size 9 1 v 0 []∧Bw w w':=by
 rcases Nat.eq_zero_or_pos n with rfl | h
 ·refine (Any8.slices_Grow_room Tryz.grow1 none 0 0 0 w (Nat.le_refl _) (by omega) (by omega) (by omega)).mono ?_
  rintro e w' ⟨rfl,rfl⟩;exact ⟨_,rfl,World.ownsRow_nil _ _ _ _,qrefl _⟩
 ·obtain ⟨i,hi,hz,hs,hb⟩:=info_parts infoStr
  refine (Any8.slices_Grow_grow Tryz.grow1 i _ hi hz (by omega) none 0 0 n [] w (Nat.le_refl _) (by omega) (by rw [hb];omega) (by omega) (by simp) (fun _ => rfl) (fun _ h => by cases h)).mono ?_;rintro e w' ⟨rfl,rfl⟩;refine ⟨_,rfl,?_,?_⟩
  ·have hge:=grownCap_ge w (0 + n) 0 9
   refine World.ownsRow_made (base:=w.heap.size) (size:=1) w.drew _ _ (Nat.le_refl _) (grownCap_le_maxLen w _ _ _ (by unfold maxLen;omega)) ?_;have e1:Tryz.grow1_ren.t 25 = 9:=rfl;rw [e1];simp only [Array.size_append,size_zeroCells,(show (Value.string ⟨#[]⟩).cells.size = 1 from rfl),List.size_toArray,List.length_nil]
   omega
  ·exact ((Mod.refl [] w).drew.alloc _).below
set_option maxRecDepth 100000 in
set_option maxHeartbeats 4000000 in
theorem ConcatS_any (l1 l2 l3:List ByteArray) (a1 a2 a3:Option Addr) (c1 c2 c3 b:Nat) (w:World) (h1:Strs w (.slice a1 l1.length c1) l1) (h2:Strs w (.slice a2 l2.length c2) l2) (h3:Strs w (.slice a3 l3.length c3) l3) (hb:b < w.heap.size)
  (hc0:w.cell? ⟨b,0,none⟩ = some (.slice a1 l1.length c1)) (hc1:w.cell? ⟨b,1,none⟩ = some (.slice a2 l2.length c2)) (hc2:w.cell? ⟨b,2,none⟩ = some (.slice a3 l3.length c3)) (hn1:l1.length≤1000000) (hn2:l2.length≤1000000) (hn3:l3.length≤1000000) :
  Calls Tryz.prog 154 #[.slice (some ⟨b,0,none⟩) 3 3] w fun e w' => ∃ v,e = .returned v∧w'.ownsRow w.heap.size 9 1 v (l1 ++ (l2 ++ l3)).length ((l1 ++ (l2 ++ l3)).map .string)∧Bw w w':=by
 obtain ⟨i0,hi,hz0,hz1,hz2⟩:=info_parts infoStr;obtain ⟨N,hN⟩:∃ N:Nat,N = l1.length + (l2.length + l3.length):=⟨_,rfl⟩;have HG:=lH (GrowS_any N (by omega) w);have one:∀ l:List ByteArray,∀ u∈l.map Value.string,u.oneCell' = true:=fun l u hu => by obtain ⟨s,_,rfl⟩:=List.mem_map.1 hu;rfl
 obtain ⟨S,XS,hS0,hX0,hS2,hX2,hK⟩:∃ (S:Nat→Nat) (XS:Nat→List Value),S 0 = 0∧XS 0 = []∧S 3 = N∧XS 3 = (l1 ++ (l2 ++ l3)).map .string ∧
   ∀ k,k < 3→∃ a n c xs,w.cell? ⟨b,k,none⟩ = some (.slice a n c)∧S (k + 1) = S k + n∧S (k + 1)≤3000000∧IsRow w 1 (.slice a n c) n xs∧(∀ u∈xs,u.oneCell' = true)∧XS (k + 1) = XS k ++ xs:=by
  refine ⟨fun k => if k = 0 then 0 else if k = 1 then l1.length else if k = 2 then l1.length + l2.length else N,fun k => if k = 0 then [] else if k = 1 then l1.map .string else if k = 2 then (l1 ++ l2).map .string else (l1 ++ (l2 ++ l3)).map .string,rfl,rfl,rfl,rfl,fun k hk => ?_⟩
  match k,hk with
  | 0,_ => exact ⟨a1,l1.length,c1,l1.map .string,hc0,by simp,by simp;omega,h1,one _,by simp⟩
  | 1,_ => exact ⟨a2,l2.length,c2,l2.map .string,hc1,by simp,by simp;omega,h2,one _,by simp⟩
  | 2,_ => exact ⟨a3,l3.length,c3,l3.map .string,hc2,by simp;omega,by simp;omega,h3,one _,by simp⟩
 have HK:=lH hK;have HS0:=lH hS0;have HX0:=lH hX0;have HS2:=lH hS2;have HX2':=lH hX2;have HN:=lH hN;clear hN h1 h2 h3 hS0 hX0 hS2 hX2 hK hc0 hc1 hc2 one
 go_enter Tryz.func154,Tryz.ntmps154
 go_wp2
 go_loop [3,11] (fun sv iv => ∃ k:Nat,k≤3∧iv = .int .i64 k∧sv = .int .i64 (S k:Int)) (fun _ iv => 3 - (intOf iv).toNat)
 case atStart => exact ⟨0,by omega,rfl,by rw [HS0.out];rfl⟩
 case round =>
  obtain ⟨k,hk,rfl,rfl⟩:=hrel
  by_cases hk2:k < 3
  ·have hd:decide ((k:Int) < 3) = true:=decide_eq_true (by omega)
   have hir:(k:Int) < 3:=by omega
   obtain ⟨a,n,c,xs,hcell,hs1,hs2,-⟩:=HK.out k hk2;have HS1:=lH hs1;have q:wrap64 ((S k:Int) + (n:Int)) = (S (k + 1):Int):=by rw [hs1];unfold wrap64;omega
   have HQ:=lH q;clear hs1;have q3:¬ ((S (k + 1):Int) < 0):=by omega
   go_wp2
   go_round
   case rel => exact ⟨k + 1,by omega,by go_num,by rw [HQ.out]⟩
   case measure => simp [intOf];omega
  ·have hd:decide ((k:Int) < 3) = false:=decide_eq_false (by omega)
   obtain rfl:k = 3:=by omega
   have HG2:Hid (Calls Tryz.prog 212 #[.slice none 0 0,.int .i64 (S 3:Int)] w fun e w' => ∃ v,e = .returned v∧w'.ownsRow w.heap.size 9 1 v 0 []∧Bw w w'):=by show Calls _ _ _ _ _;rw [HS2.out];exact HG.out
   clear HG hk hk2;go_wp2_with (fail)
   refine HG2.out.mono ?_;rintro e w1 ⟨v,rfl,hown,hb1⟩;have HOW:=lH hown;clear hown HG2 hd;go_wp2
   go_loopw [6,27] (fun sv iv wr => ∃ k:Nat,k≤3∧iv = .int .i64 k∧Hid (wr.ownsRow w.heap.size 9 1 sv (S k) (XS k))∧Bw w wr) (fun _ iv _ => 3 - (intOf iv).toNat)
   case atStart => exact ⟨0,by omega,rfl,by rw [HS0.out,HX0.out];exact HOW,hb1⟩
   case round =>
    obtain ⟨k,hk,rfl,HO,hb'⟩:=hrel;clear HOW
    by_cases hk2:k < 3
    ·have hd:decide ((k:Int) < 3) = true:=decide_eq_true (by omega)
     have hir:(k:Int) < 3:=by omega
     obtain ⟨a,n,c,xs,hcell,hs1,hs2,hrow,hone,hxs⟩:=HK.out k hk2;have hc':=(hb'.cell (p:=⟨b,_,none⟩) hb).trans hcell;have hbr:b < wr.heap.size:=Nat.lt_of_lt_of_le hb hb'.size;have hsz:=hb'.size;have HS1:=lH hs1;have HXK:=lH hxs;have hle:S k + n≤3000000:=by omega
     have hrow':=hrow.below hb';have hown:=HO.out;clear hs1 hxs hs2 hcell hrow;go_wp2_with (at_builtin;refine wpList_append_row rfl _ _ 50 rfl w.heap.size 9 i0 _ 1 16 Tryz.underlying50 hi hz0 hz1 hz2 rfl (by decide) _ _ _ rfl hown _ _ _ rfl hrow' hone (by unfold maxLen;omega) (by omega) (by omega) ?_)
     intro v3 w3 hown3 hg3 hb3;have hB3:Bw w w3:=hb'.grown hg3 hsz (fun j hj => (HO.out.lt j hj).1);rw [← HS1.out,← HXK.out] at hown3;have HO3:=lH hown3;clear hown3 hown;go_wp2;go_roundw
     case rel => exact ⟨k + 1,by omega,by go_num,HO3,hB3⟩
     case measure => simp [intOf];omega
    ·have hd:decide ((k:Int) < 3) = false:=decide_eq_false (by omega)
     obtain rfl:k = 3:=by omega
     have HOF:=HO.out;rw [HS2.out,HX2'.out] at HOF;obtain ⟨av,cv,rfl⟩:=owns_val HOF;have HLE:Hid ((l1 ++ (l2 ++ l3)).length = N):=by show _ = _;rw [HN.out];simp
     have HF:=lH HOF;clear HO HOF;go_wp2;go_ret;exact ⟨_,rfl,by rw [HLE.out];exact HF.out,hb'⟩
section
open Go.Sort
theorem map_encStr (zs:List (List UInt8)):zs.map encStr = (zs.map ofL).map Value.string:=by rw [List.map_map];rfl
theorem SortS_any (ns:List ByteArray) (base:Nat) (v:Value) (w:World) (h:w.ownsRow base 9 1 v ns.length (ns.map .string)) (hn:ns.length≤4000000) :
  Calls Tryz.prog 155 #[v] w fun e w' => e = .returned (.tuple #[])∧w'.ownsRow base 9 1 v ns.length (((ns.map fun s => s.data.toList).mergeSort fun x y => decide (x≤y)).map encStr)∧Mod v.ownBlock.toList w w':=by
 have e0:ns.map Value.string = (ns.map fun s => s.data.toList).map encStr:=by rw [map_encStr];congr 1;rw [List.map_map];exact (List.map_id ns).symm.trans (List.map_congr_left fun s _ => (ofL_of s).symm)
 have el:((ns.map fun s => s.data.toList).mergeSort fun x y => decide (x≤y)).length = (ns.map fun s => s.data.toList).length:=by rw [List.length_mergeSort]
 have e1:(ns.map fun s => s.data.toList).length = ns.length:=List.length_map ..;rw [← e1] at h ⊢;rw [e0] at h;generalize (ns.map fun s => s.data.toList) = ss at *
 rcases Nat.eq_zero_or_pos ss.length with hz | hz
 ·have e:=List.eq_nil_of_length_eq_zero hz
  subst e;obtain ⟨a,c,rfl⟩:=owns_val h;refine (AnyM.slices_Sort_string_none Tryz.sortA a c w).mono ?_;rintro e w5 ⟨rfl,rfl⟩;exact ⟨rfl,by simpa using h,Mod.refl _ _⟩
 ·rcases h.2 with ⟨hnil,h0⟩ | ⟨g,cap,cur,rfl,hbase,hb,h1,h2,h3,h4⟩
  ·exact absurd h0 (by omega)
  have hH:Holds encStr w g 0 ss.toArray:=holds_of_block hb (by simpa using h4);have hgl:g < w.heap.size:=(Array.getElem?_eq_some_iff.1 hb).1;refine (Tryz.sort_Strings g 0 cap ss w hH hgl (by omega)).mono ?_;rintro e w5 ⟨rfl,nn,os,rfl⟩;exact ⟨rfl,ownsRow_sorted el hbase hb h1 h2 h3,mod_of_grown (grownBy_sorted _)⟩
theorem compact_le (zs:List (List UInt8)):(Lib.compact zs).length≤zs.length:=by
 have key:∀ (d:Array (List UInt8)) m,(Lib.compactUpTo d m).length≤m:=by
  intro d m
  induction m with
  | zero => simp [Lib.compactUpTo]
  | succ m ih =>
   rw [Lib.compactUpTo_succ,List.length_append];split
   ·simp;exact ih
   ·simp;omega
 have e:Lib.compactUpTo zs.toArray zs.toArray.size = Lib.compact zs:=by simp [Lib.compact]
 have:=key zs.toArray zs.toArray.size;rw [e] at this
 simpa using this
theorem row_prefix {w:World} {g n cap:Nat} {L:List (List UInt8)} {r:List Value} (h:IsRow w 1 (.slice (some ⟨g,0,none⟩) n cap) n ((L.map ofL).map .string ++ r)) (hm:L.length≤n):Strs w (.slice (some ⟨g,0,none⟩) (L.map ofL).length cap) (L.map ofL):=by
 obtain ⟨_,a,c,e1,h1,h2,h3⟩:=h
 injection e1 with e1 e2 e3
 subst e1 e3;refine ⟨by simp,some ⟨g,0,none⟩,cap,rfl,by rw [List.length_map];omega,h2,fun hn => ?_⟩;obtain ⟨b,o,e4,hb,hc⟩:=h3 (by rw [List.length_map] at hn;omega);refine ⟨b,o,e4,hb,fun j u hj => hc j u ?_⟩;rw [List.getElem?_append_left (List.getElem?_eq_some_iff.1 hj).1];exact hj
theorem CompactS_any (zs:List (List UInt8)) (base:Nat) (v:Value) (w:World) (h:w.ownsRow base 9 1 v zs.length (zs.map encStr)) (hn:zs.length≤4000000) :
  Calls Tryz.prog 156 #[v] w fun e w' => ∃ a c,e = .returned (.slice a ((Lib.compact zs).map ofL).length c)∧Strs w' (.slice a ((Lib.compact zs).map ofL).length c) ((Lib.compact zs).map ofL)∧Mod v.ownBlock.toList w w'∧(Lib.compact zs).length≤zs.length:=by
 rcases Nat.eq_zero_or_pos zs.length with hz | hz
 ·have e:=List.eq_nil_of_length_eq_zero hz
  subst e;obtain ⟨a,c,rfl⟩:=owns_val h;refine (AnyG.slices_Compact_string_empty Tryz.compactS a c w).mono ?_;rintro e w5 ⟨rfl,rfl⟩;have hr:=owns_row h;exact ⟨a,c,rfl,hr,Mod.refl _ _,Nat.le_refl _⟩
 ·rcases h.2 with ⟨hnil,h0⟩ | ⟨g,cap,cur,rfl,hbase,hb,h1,h2,h3,h4⟩
  ·exact absurd h0 (by omega)
  have hH:Holds encStr w g 0 zs.toArray:=holds_of_block hb (by simpa using h4);have hle:=compact_le zs;refine (AnyG.slices_Compact_string Tryz.compactS g 0 cap zs w hH (by omega) h1).mono ?_;rintro e w5 ⟨rfl,q,rfl⟩;have el:(Lib.compact zs ++ List.replicate (zs.length - (Lib.compact zs).length) []).length = zs.length:=by rw [List.length_append,List.length_replicate];omega
  have ho:=ownsRow_sorted (n:=q) (os:=#[]) (ts:=Lib.compact zs ++ List.replicate (zs.length - (Lib.compact zs).length) []) el hbase hb h1 h2 h3;rw [grow_empty] at ho;have hr:=owns_row ho;rw [List.map_append,map_encStr] at hr;refine ⟨some ⟨g,0,none⟩,cap,by rw [List.length_map],?_,?_,hle⟩
  ·exact row_prefix hr hle
  ·have:=grownBy_sorted (w:=w) (g:=g) (n:=q) (os:=#[]) (Lib.compact zs ++ List.replicate (zs.length - (Lib.compact zs).length) []).toArray
   rw [grow_empty] at this;exact mod_of_grown this
end
end Go.Proofs.YtdpnfkjafhbndaaGreatDoor
namespace Go.Proofs.YtdpnfkjafhbndaaGreatDoor
open Go.RowKit Go.Shelf
attribute [local go_sem] Oper.semAt_some run_mkMap
def usesErrM (U:List ByteArray):Int:=if U.length≤20 then (if aliasDup U then 17 else 0) else 4
def usesOut (U:List ByteArray):List ByteArray:=if usesErrM U = 0 then U else []
theorem three_boxes (w:World) (t:TypeId) (xs ys zs:Array Value) :
  CBox (((w.alloc (.cells xs t)).alloc (.cells ys t)).alloc (.cells zs t)) w.heap.size t xs∧CBox (((w.alloc (.cells xs t)).alloc (.cells ys t)).alloc (.cells zs t)) (w.heap.size + 1) t ys ∧
  CBox (((w.alloc (.cells xs t)).alloc (.cells ys t)).alloc (.cells zs t)) (w.heap.size + 1 + 1) t zs ∧
  Bw w (((w.alloc (.cells xs t)).alloc (.cells ys t)).alloc (.cells zs t))∧(((w.alloc (.cells xs t)).alloc (.cells ys t)).alloc (.cells zs t)).heap.size = w.heap.size + 1 + 1 + 1:=by
 refine ⟨((CBox.new w t xs).alloc _).alloc _,?_,?_,qtrans (qtrans (qalloc _ _) (qalloc _ _)) (qalloc _ _),by simp only [World.size_alloc]⟩
 ·have:=CBox.new (w.alloc (.cells xs t)) t ys
  rw [World.size_alloc] at this;exact this.alloc _
 ·have:=CBox.new ((w.alloc (.cells xs t)).alloc (.cells ys t)) t zs
  rw [World.size_alloc,World.size_alloc] at this;exact this
theorem scontains_q (v:Value) (s:ByteArray) (ss:List ByteArray) (w:World) (hv:Strs w v ss) (hn:ss.length≤40000) :
  Calls Tryz.prog 124 #[v,.string s] w fun e w' => e = .returned (.bool (memS s ss))∧w' = w:=(SContains_any v s ss w hv hn).mono fun _ _ h => ⟨h.1,h.2.symm⟩
def labelsOf (ns:List ByteArray):List ByteArray:=(Lib.compact ((ns.map fun s => s.data.toList).mergeSort fun x y => decide (x≤y))).map ofL
def aliasF (us:List ByteArray):List UInt8→Option Value:=fun x => if us.any (fun s => (aliasS s).data.toList == x) then some (.bool true) else none
theorem aliasF_snoc (us:List ByteArray) (s:ByteArray):aliasF (us ++ [s]) = fun x => if x = (aliasS s).data.toList then some (.bool true) else aliasF us x:=by
 funext x
 unfold aliasF;rw [List.any_append]
 by_cases hx:x = (aliasS s).data.toList
 ·subst hx
  rw [if_pos rfl,if_pos];rw [Bool.or_eq_true]
  right
  simp
 ·rw [if_neg hx]
  have:[s].any (fun s => (aliasS s).data.toList == x) = false:=by
   simp only [List.any_cons,List.any_nil,Bool.or_false,beq_eq_false_iff_ne]
   exact fun e => hx e.symm
  rw [this,Bool.or_false]
def dupAt (us:List ByteArray) (i:Nat):Bool:=(us.take i).any fun s => (aliasS s).data.toList == (aliasS (sAt us i)).data.toList
theorem aliasF_get (us:List ByteArray) (i:Nat):(aliasF (us.take i) (aliasS (sAt us i)).data.toList).getD (.bool false) = .bool (dupAt us i):=by
 unfold aliasF dupAt
 cases (us.take i).any fun s => (aliasS s).data.toList == (aliasS (sAt us i)).data.toList <;> rfl
theorem aliasDup_iff {us:List ByteArray}:aliasDup us = true↔∃ i,i < us.length∧dupAt us i = true:=by
 unfold aliasDup dupAt;simp only [List.any_eq_true,List.mem_range,beq_iff_eq,tl]
 constructor
 ·rintro ⟨i,hi,k,hk,e⟩
  refine ⟨i,hi,sAt us k,?_,e⟩;rw [sAt_of (show k < us.length by omega)];exact List.mem_iff_getElem.2 ⟨k,by rw [List.length_take];omega,by rw [List.getElem_take]⟩
 ·rintro ⟨i,hi,s,hs,e⟩
  obtain ⟨k,hk,rfl⟩:=List.mem_iff_getElem.1 hs;rw [List.length_take] at hk;refine ⟨i,hi,k,by omega,?_⟩;rw [List.getElem_take] at e;rw [sAt_of (show k < us.length by omega)];exact e
theorem aliasDup_no {us:List ByteArray} (h:∀ i,i < us.length→dupAt us i = false):aliasDup us = false:=by
 rw [← Bool.not_eq_true];intro h';obtain ⟨i,hi,e⟩:=aliasDup_iff.1 h';rw [h i hi] at e
 cases e
theorem filter_take_succ {p:ByteArray→Bool} {l:List ByteArray} {i:Nat} {s:ByteArray} (h:l[i]? = some s):(l.take (i + 1)).filter p = (l.take i).filter p ++ (if p s then [s] else []):=by
 rw [take_at h,List.filter_append]
 cases hp:p s <;> simp [hp]
theorem strs_at {w:World} {l:List ByteArray} {a:Option Addr} {c i:Nat} {s:ByteArray} (h:Strs w (.slice a l.length c) l) (hi:l[i]? = some s):∃ b o,a = some ⟨b,o,none⟩∧b < w.heap.size∧w.cell? ⟨b,o + i,none⟩ = some (.string s):=by
 obtain ⟨a',cap,e,_,_,hc⟩:=h.shape
 injection e with e1 e2 e3
 subst e1;obtain ⟨hl,rfl⟩:=List.getElem?_eq_some_iff.1 hi;obtain ⟨b,o,rfl,hb,hk⟩:=hc i hl;refine ⟨b,o,rfl,hb,?_⟩;rw [hk i hl,List.getD_eq_getElem?_getD,List.getElem?_eq_getElem hl];rfl
structure MergedU (U:List ByteArray) (X:List Nat) (w:World) (e:Ending) (w':World):Prop where
  of ::
  out:∃ a c,e = .returned (.tuple #[.slice a (usesOut U).length c,.int .i64 (usesErrM U)])∧Reads w' X (strsT (usesOut U)) (.slice a (usesOut U).length c)∧(usesOut U).length≤c∧c≤9223372036854775807∧Below w.heap.size w w'
theorem MergedU.bad {U:List ByteArray} {X:List Nat} {w w':World} {q:Int} (h:usesErrM U = q) (hq:q≠0) (hb:Bw w w'):MergedU U X w (.returned (.tuple #[.slice none 0 0,.int .i64 q])) w':=by
 have e:usesOut U = []:=by unfold usesOut;rw [h,if_neg hq]
 refine ⟨none,0,?_,?_,?_,Nat.zero_le _,hb⟩
 ·rw [e,h];rfl
 ·rw [e];exact Reads.nilRow _ _ _ _
 ·rw [e];exact Nat.le_refl _
theorem MergedU.good {U:List ByteArray} {X:List Nat} {w w':World} {a:Option Addr} {c:Nat} (h:usesErrM U = 0) (hr:Reads w' X (strsT U) (.slice a U.length c)) (h1:U.length≤c) (h2:c≤9223372036854775807) (hb:Bw w w'):MergedU U X w (.returned (.tuple #[.slice a U.length c,.int .i64 0])) w':=by
 have e:usesOut U = U:=by unfold usesOut;rw [h,if_pos rfl]
 refine ⟨a,c,?_,?_,?_,h2,hb⟩
 ·rw [e,h]
 ·rw [e];exact hr
 ·rw [e];exact h1
attribute [local irreducible] aliasS
set_option maxRecDepth 100000 in
set_option maxHeartbeats 8000000 in
theorem mergeUses_any (b l r:OMod) (aub aul aur adb adl adr:Option Addr) (cub cul cur cdb cdl cdr:Nat) (X:List Nat) (w:World) (hX:∀ k,k∈X→k < w.heap.size) (hb:ModIn w [] b aub cub adb cdb) (hl:ModIn w [] l aul cul adl cdl) (hr:ModIn w [] r aur cur adr cdr)
  (nb:b.uses.length≤20) (nl:l.uses.length≤20) (nr:r.uses.length≤20) (sb:∀ s∈b.uses,s.size≤40000) (sl:∀ s∈l.uses,s.size≤40000) (sr:∀ s∈r.uses,s.size≤40000) :
  Calls Tryz.prog 96 #[modV b aub cub adb cdb,modV l aul cul adl cdl,modV r aur cur adr cdr] w (MergedU (usesM b.uses l.uses r.uses) X w):=by
 obtain ⟨gb,gl,gr,hA,hs3⟩:=three_boxes w 52 (mA b aub cub adb cdb) (mA l aul cul adl cdl) (mA r aur cur adr cdr);have HX:=lH hX;have HB:=lH (reads_strs.1 hb.uses).1;have HL:=lH (reads_strs.1 hl.uses).1;have HR:=lH (reads_strs.1 hr.uses).1;obtain ⟨ls1,ls2⟩:=labels_sorted (b.uses ++ (l.uses ++ r.uses));have HUE:Hid ((labelsOf (b.uses ++ (l.uses ++ r.uses))).filter (fun s => truthB (memS s b.uses) (memS s l.uses) (memS s r.uses)) = usesM b.uses l.uses r.uses):=uses_eq ls1 (fun x => (ls2 x).trans (by simp))
 have HSZ:Hid (∀ s∈labelsOf (b.uses ++ (l.uses ++ r.uses)),s.size≤40000):=fun s hs => by
  rcases List.mem_append.1 ((ls2 s).1 hs) with h | h
  ·exact sb s h
  ·rcases List.mem_append.1 h with h | h
   ·exact sl s h
   ·exact sr s h
 clear hX hb hl hr sb sl sr ls1 ls2;unfold modV
 go_enter Tryz.func96,Tryz.ntmps96
 go_upto_region 1 with (fail)
 generalize ((w.alloc (.cells (mA b aub cub adb cdb) 52)).alloc (.cells (mA l aul cul adl cdl) 52)).alloc (.cells (mA r aur cur adr cdr) 52) = W0 at *;generalize hn1:w.heap.size + 1 = n1 at *;generalize hn2:n1 + 1 = n2 at *;have hsW:n2 < W0.heap.size:=by omega
 have m1:w.heap.size < n1:=by omega
 have m2:n1 < n2:=by omega
 clear hn1 hn2 hs3;have Gb:=lH gb;have Gl:=lH gl;have Gr:=lH gr;clear gb gl gr;have x1:=Gb.out.cell (i:=1) (v:=.slice aub b.uses.length cub) rfl;have y1:=Gl.out.cell (i:=1) (v:=.slice aul l.uses.length cul) rfl;have z1:=Gr.out.cell (i:=1) (v:=.slice aur r.uses.length cur) rfl;have q1:=Gb.out.lt;have q2:=Gl.out.lt;have q3:=Gr.out.lt;have hA1:=qalloc W0 (.cells #[.slice aub b.uses.length cub,.slice aul l.uses.length cul,.slice aur r.uses.length cur] 50)
 have hbx:=CBox.new W0 50 #[.slice aub b.uses.length cub,.slice aul l.uses.length cul,.slice aur r.uses.length cur];have hw1:=qtrans hA hA1;have HCC:=lH (ConcatS_any b.uses l.uses r.uses aub aul aur cub cul cur W0.heap.size _ (HB.out.below hw1) (HL.out.below hw1) (HR.out.below hw1) hbx.lt (hbx.cell (i:=0) rfl) (hbx.cell (i:=1) rfl) (hbx.cell (i:=2) rfl) (by omega) (by omega) (by omega));have hN:(b.uses ++ (l.uses ++ r.uses)).length≤60:=by simp only [List.length_append];omega
 clear hbx;have HA1:=lH hA1;have HW1:=lH hw1;clear hA1 hw1;go_wp2_with (fail)
 refine HCC.out.mono ?_;rintro e w2 ⟨v,rfl,hown,hb2⟩;have hb12:=qtrans HA1.out hb2;have hw2:=qtrans HW1.out hb2;have hbase:W0.heap.size≤(W0.alloc (.cells #[.slice aub b.uses.length cub,.slice aul l.uses.length cul,.slice aur r.uses.length cur] 50)).heap.size:=HA1.out.size;have HSO:=lH (SortS_any (b.uses ++ (l.uses ++ r.uses)) _ v w2 hown (by omega));have hge:=fun k (hk:v.ownBlock = some k) => Nat.le_trans hbase (owns_block hown hk);clear x1 y1 z1 q1 q2 q3 hb2 HA1 HW1 HCC hbase hown;go_wp2_with (fail)
 refine HSO.out.mono ?_;rintro e w3 ⟨rfl,hown3,hm3⟩;have hb13:Bw W0 w3:=hb12.trans (hm3.upto hb12.size (fun k hk => hge k (by simpa using hk)));have hw3:Bw w w3:=hw2.trans (hm3.upto hw2.size (fun k hk => by have:=hge k (by simpa using hk);omega));have hlm:(List.mergeSort ((b.uses ++ (l.uses ++ r.uses)).map fun s => s.data.toList) (fun x y => decide (x≤y))).length = (b.uses ++ (l.uses ++ r.uses)).length:=by rw [List.length_mergeSort,List.length_map]
 rw [← hlm] at hown3
 have HCO:Hid (Calls Tryz.prog 156 #[v] w3 fun e w' => ∃ a c,e = .returned (.slice a (labelsOf (b.uses ++ (l.uses ++ r.uses))).length c)∧Strs w' (.slice a (labelsOf (b.uses ++ (l.uses ++ r.uses))).length c) (labelsOf (b.uses ++ (l.uses ++ r.uses)))∧Mod v.ownBlock.toList w3 w'∧(labelsOf (b.uses ++ (l.uses ++ r.uses))).length≤60):=by
  refine (CompactS_any _ _ v w3 hown3 (by rw [hlm];omega)).mono ?_;rintro e w' ⟨a,c,h1,h2,h3,h4⟩;exact ⟨a,c,h1,h2,h3,by show ((Lib.compact _).map ofL).length≤60;rw [List.length_map];omega⟩
 clear hown3 hlm hm3 hb12 hw2 HSO;generalize labelsOf (b.uses ++ (l.uses ++ r.uses)) = LL at *;go_wp2_with (fail)
 refine HCO.out.mono ?_;rintro e w4 ⟨a4,c4,rfl,hst,hm4,hLL⟩;have hb14:Bw W0 w4:=hb13.trans (hm4.upto hb13.size (fun k hk => hge k (by simpa using hk)));have hw4:Bw w w4:=hw3.trans (hm4.upto hw3.size (fun k hk => by have:=hge k (by simpa using hk);omega));have HST:=lH hst;clear hst hm4 hb13 hw3 HCO hge;have HBW:=lH hb14;have HWW:=lH hw4;clear hb14 hw4;obtain ⟨P,hP⟩:∃ P:ByteArray→Bool,(fun s => truthB (memS s b.uses) (memS s l.uses) (memS s r.uses)) = P:=⟨_,rfl⟩;rw [hP] at HUE
 have HPP:Hid (∀ s,truthB (memS s b.uses) (memS s l.uses) (memS s r.uses) = P s):=fun s => congrFun hP s;clear hP;obtain ⟨i0,hi0,hz0,hz1,hz2⟩:=info_parts infoStr;go_wp2
 go_loopw [9,32] (fun sv iv wr => ∃ i:Nat,i≤LL.length∧iv = .int .i64 i∧Hid (wr.ownsRow w4.heap.size 9 1 sv ((LL.take i).filter P).length (((LL.take i).filter P).map .string))∧Hid (Bw w4 wr)) (fun _ iv _ => LL.length - (intOf iv).toNat)
 case atStart => exact ⟨0,Nat.zero_le _,rfl,World.ownsRow_nil _ _ _ _,qrefl _⟩
 case round =>
  obtain ⟨i,hil,rfl,HO,HBR⟩:=hrel;have hbr:Bw W0 wr:=HBW.out.trans (HBR.out.mono HBW.out.size);have hwr:Bw w wr:=HWW.out.trans (HBR.out.mono HWW.out.size)
  by_cases hi:i < LL.length
  ·have hd:decide ((i:Int) < (LL.length:Int)) = true:=decide_eq_true (by omega)
   have hir:(i:Int) < (LL.length:Int):=by omega
   obtain ⟨s,hs⟩:∃ s,LL[i]? = some s:=⟨_,List.getElem?_eq_getElem hi⟩;obtain ⟨sb,so,rfl,hsb,hsc⟩:=strs_at (HST.out.below HBR.out) hs;have HFT:=lH (filter_take_succ (p:=P) hs);have hlf:((LL.take i).filter P).length≤60:=Nat.le_trans (List.length_filter_le _ _) (by rw [List.length_take];omega);have x1:=(Gb.out.below hbr).cell (i:=1) (v:=.slice aub b.uses.length cub) rfl;have y1:=(Gl.out.below hbr).cell (i:=1) (v:=.slice aul l.uses.length cul) rfl;have z1:=(Gr.out.below hbr).cell (i:=1) (v:=.slice aur r.uses.length cur) rfl
   have q1:=(Gb.out.below hbr).lt;have q2:=(Gl.out.below hbr).lt;have q3:=(Gr.out.below hbr).lt;have hps:=HPP.out s;clear hs;generalize ((LL.take i).filter P) = K0 at *;go_upto_region 8 with (fail)
   clear hsc hsb;obtain ⟨p,hp⟩:∃ p,P s = p:=⟨_,rfl⟩;have HPS:=lH (hps.trans hp);rw [hp] at HFT;clear hps hp
   go_cut [12,13] from 33 to 57 (fun u _ wx => u = .bool p∧Bw wr wx)
   case first =>
    have SB:∀ n,Strs (wr.drewN n) (.slice aub b.uses.length cub) b.uses:=fun n => (HB.out.below hwr).below (below_drewN (qrefl wr) n);have SL:∀ n,Strs (wr.drewN n) (.slice aul l.uses.length cul) l.uses:=fun n => (HL.out.below hwr).below (below_drewN (qrefl wr) n);have SR:∀ n,Strs (wr.drewN n) (.slice aur r.uses.length cur) r.uses:=fun n => (HR.out.below hwr).below (below_drewN (qrefl wr) n)
    go_quiet (first | (go_at_call 124;exact Calls.quiet_of_same (scontains_q _ _ _ _ (by first | exact SB _ | exact SL _ | exact SR _) (by omega))) | (go_at_call 157;exact Calls.quiet_of_same (chooseB_any _ _ _ _)))
    go_wp2;go_meet
    case rel => exact ⟨by rw [HPS.out],below_drewN (qrefl wr) _⟩
   case rest =>
   obtain ⟨rfl,hbc⟩:=hcut;have HO2:=lH (owns_below HO.out hbc);have HB2:Hid (Bw w4 wc):=HBR.out.trans (hbc.mono HBR.out.size);clear x1 y1 z1 q1 q2 q3 hbr hwr HO HBR hbc HPS
   cases p with
   | false =>
    rw [if_neg Bool.false_ne_true,List.append_nil] at HFT;go_wp2;go_roundw
    case rel => exact ⟨i + 1,by omega,by go_num,by rw [HFT.out];exact HO2,HB2⟩
    case measure => simp [intOf];omega
   | true =>
    rw [if_pos rfl] at HFT;have hrow:=owns_row (own_one wc wc.heap.size (Nat.le_refl _) (.string s) 9);have hown:=HO2.out;have hal:=qalloc wc (.cells #[.string s] 9);have hsz:=HB2.out.size;have hsz2:=hal.size;go_wp2_with (at_builtin;refine wpList_append_row rfl _ _ 50 rfl w4.heap.size 9 i0 _ 1 16 Tryz.underlying50 hi0 hz0 hz1 hz2 rfl (by decide) _ _ _ rfl (hown.alloc _) _ 1 [.string s] rfl hrow (strs_one [s]) (by unfold maxLen;omega) (by omega) (by omega) ?_;rintro v' w7 ho7 hg7 -)
    have HB7:Hid (Bw w4 w7):=(HB2.out.trans (hal.mono HB2.out.size)).grown hg7 (by omega) (fun k hk => by have:=owns_block hown hk;omega)
    have HO7:Hid (w7.ownsRow w4.heap.size 9 1 v' ((LL.take (i + 1)).filter P).length (((LL.take (i + 1)).filter P).map .string)):=by
     show World.ownsRow _ _ _ _ _ _ _
     rw [HFT.out]
     simpa using ho7
    clear hrow hown hal ho7 hg7;go_roundw
    case rel => exact ⟨i + 1,by omega,by go_num,HO7,HB7⟩
    case measure => simp [intOf];omega
  ·have hd:decide ((i:Int) < (LL.length:Int)) = false:=decide_eq_false (by omega)
   have HO':=HO.out;rw [List.take_of_length_le (by omega),HUE.out] at HO';have hUl:(usesM b.uses l.uses r.uses).length≤60:=by rw [← HUE.out];exact Nat.le_trans (List.length_filter_le _ _) hLL
   have HSU:Hid (∀ s∈usesM b.uses l.uses r.uses,s.size≤40000):=fun s hs => by rw [← HUE.out] at hs;exact HSZ.out s (List.mem_filter.1 hs).1
   obtain ⟨av,cv,rfl⟩:=owns_val HO';have HRD:Hid (Reads wr X (strsT (usesM b.uses l.uses r.uses)) (.slice av (usesM b.uses l.uses r.uses).length cv)):=reads_strs.2 ⟨owns_row HO',fun _ k hk hx => by have:=owns_block HO' hk;have:=HX.out k hx;have:=HWW.out.size;omega⟩;obtain ⟨a0,c0,ev,hcv1,hcv2⟩:=strs_val HRD.out
   injection ev with e1 e2 e3
   rw [← e3] at hcv1 hcv2;clear e1 e2 e3;have HWR:=lH hwr;clear HO HO' hbr hwr HUE HSZ HBR;generalize usesM b.uses l.uses r.uses = U at *
   by_cases h20:20 < U.length
   ·have hd2:decide ((20:Int) < (U.length:Int)) = true:=decide_eq_true (by omega)
    have HE:Hid (usesErrM U = 4):=by show _ = _;unfold usesErrM;rw [if_neg (by omega)]
    clear h20;go_wp2;go_returns;exact MergedU.bad HE.out (by decide) HWR.out
   ·have hd2:decide ((20:Int) < (U.length:Int)) = false:=decide_eq_false (by omega)
    have hU20:U.length≤20:=by omega
    have HM0:=lH (IsMapS.made Tryz.prog 9 wr);have HB0:=lH (qalloc wr (.map #[] 0));clear h20;go_upto_region 15 with (fail)
    generalize wr.alloc (.map #[] 0) = w5 at *;obtain ⟨M,hM⟩:∃ M,wr.heap.size = M:=⟨_,rfl⟩;rw [hM] at HM0 ⊢;have HMM:Hid (M = wr.heap.size):=hM.symm;clear hM;generalize wr = wo at *;go_wp2
    go_loopw [64] (fun iv wr => ∃ i:Nat,i≤U.length∧iv = .int .i64 i∧Hid (∀ j,j < i→dupAt U j = false)∧Hid (IsMapS Tryz.prog 9 wr M i (aliasF (U.take i)))∧Hid (Bw wo wr)) (fun iv _ => U.length - (intOf iv).toNat)
    case atStart => exact ⟨0,Nat.zero_le _,rfl,fun j hj => absurd hj (Nat.not_lt_zero _),HM0,HB0⟩
    case round =>
     obtain ⟨i,hil,rfl,HN,HM,HBX⟩:=hrel;clear HM0 HB0
     by_cases hi:i < U.length
     ·have hd:decide ((i:Int) < (U.length:Int)) = true:=decide_eq_true (by omega)
      have hir:(i:Int) < (U.length:Int):=by omega
      obtain ⟨s,hs⟩:∃ s,U[i]? = some s:=⟨_,List.getElem?_eq_getElem hi⟩;obtain ⟨sb,so,rfl,hsb,hsc⟩:=strs_at (reads_strs.1 (HRD.out.below HBX.out)).1 hs;have hss:=HSU.out s (List.mem_of_getElem? hs);have HAL:=lH (Alias_any s wr hss);have HTK:=lH (take_at hs);have HSA:=lH (aliasF_snoc (U.take i) s)
      have HGT:Hid ((aliasF (U.take i) (aliasS s).data.toList).getD (.bool false) = .bool (dupAt U i)):=by
       have:=aliasF_get U i;rwa [sAt_some hs] at this
      have hsz:(aliasS s).size≤40000:=Nat.le_trans (aliasS_size s) hss;obtain ⟨p,hp⟩:∃ p,dupAt U i = p:=⟨_,rfl⟩;rw [hp] at HGT;have HDU:Hid (p = true→aliasDup U = true):=fun h => aliasDup_iff.2 ⟨i,hi,by rw [hp,h]⟩
      have HNX:Hid (p = false→∀ j,j < i + 1→dupAt U j = false):=fun h j hj => by
       by_cases e:j = i
       ·subst e;rw [hp,h]
       ·exact HN.out j (by omega)
      clear hp hss hs HN;generalize aliasS s = al at *;go_wp2_with (fail)
      refine HAL.out.mono ?_;rintro e w7 ⟨rfl,hb7⟩;have HB7:Hid (Bw wo w7):=HBX.out.trans (hb7.mono HBX.out.size);have HM7:=lH (HM.out.below hb7);have hlook:=HM7.out.look strKeyed Tryz.underlying160 (Tryz.zeroValue4 w7) (key_str al hsz);rw [HGT.out] at hlook;clear hsc hsb HBX HM hb7 HAL
      cases p with
      | true =>
       have HE:Hid (usesErrM U = 17):=by show _ = _;unfold usesErrM;rw [if_pos hU20,if_pos (HDU.out rfl)]
       go_wp2;go_returns;exact MergedU.bad HE.out (by decide) (HWR.out.trans (HB7.out.mono HWR.out.size))
      | false =>
       have HN7:=lH (HNX.out rfl);obtain ⟨w9,hput,hm9,hg9⟩:=HM7.out.put strKeyed Tryz.underlying160 (by unfold maxLen;omega) (key_str al hsz) (.bool true)
       have HM9:Hid (IsMapS Tryz.prog 9 w9 M (i + 1) (aliasF (U.take (i + 1)))):=by
        show IsMapS _ _ _ _ _ _
        rw [HTK.out,HSA.out];exact hm9
       have HB9:Hid (Bw wo w9):=HB7.out.grown hg9 HB7.out.size (fun k hk => by cases hk;exact Nat.le_of_eq HMM.out.symm);clear hm9 hg9;go_wp2;go_roundw
       case rel => exact ⟨i + 1,by omega,by go_num,HN7,HM9,HB9⟩
       case measure => simp [intOf];omega
     ·have hd:decide ((i:Int) < (U.length:Int)) = false:=decide_eq_false (by omega)
      have HE:Hid (usesErrM U = 0):=by show _ = _;unfold usesErrM;rw [if_pos hU20,aliasDup_no (fun j hj => HN.out j (by omega)),if_neg Bool.false_ne_true]
      go_wp2;go_returns;exact MergedU.good HE.out (HRD.out.below HBX.out) hcv1 hcv2 (HWR.out.trans (HBX.out.mono HWR.out.size))
end Go.Proofs.YtdpnfkjafhbndaaGreatDoor

