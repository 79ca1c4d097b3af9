/- slices.Concat over lists of edits. -/
import Derived.Test.YtdpnfkjafhbndaaGreatDoorEBP
import Derived.Test.YtdpnfkjafhbndaaGreatDoorEShK
import Derived.Test.YtdpnfkjafhbndaaGreatDoorEDA
namespace Go.Proofs.YtdpnfkjafhbndaaGreatDoor
open Go.RowKit Go.Shelf
attribute [local go_sem] Oper.semAt_some
theorem GrowE_any (n:Nat) (hn:n≤4000000) (w:World) :
  Calls Tryz.prog 127 #[.slice none 0 0,.int .i64 n] w fun e w' => ∃ v,e = .returned v∧w'.ownsRow w.heap.size 35 5 v 0 []∧Below w.heap.size w w':=by
 rcases Nat.eq_zero_or_pos n with rfl | h
 ·refine (Any8.slices_Grow_room Tryz.growE none 0 0 0 w (Nat.le_refl _) (by omega) (by omega) (by omega)).mono ?_
  rintro e w' ⟨rfl,rfl⟩;exact ⟨_,rfl,World.ownsRow_nil _ _ _ _,qrefl _⟩
 ·obtain ⟨i,z,hi,hz,hzs,hs,hb⟩:=info_parts' infoEdit
  refine (Any8.slices_Grow_grow Tryz.growE i z hi hz (by omega) none 0 0 n [] w (Nat.le_refl _) (by omega) (by rw [hb];omega) (by omega) (by simp) (fun _ => rfl) (fun _ h => by cases h)).mono ?_;rintro e w' ⟨rfl,rfl⟩;refine ⟨_,rfl,?_,?_⟩
  ·have hge:=grownCap_ge w (0 + n) 0 35
   refine World.ownsRow_made (base:=w.heap.size) (size:=5) w.drew _ _ (Nat.le_refl _) (grownCap_le_maxLen w _ _ _ (by unfold maxLen;omega)) ?_;have e1:Tryz.growE_ren.t 25 = 35:=rfl;rw [e1];simp only [Array.size_append,size_zeroCells,hzs,List.size_toArray,List.length_nil]
   omega
  ·exact ((Mod.refl [] w).drew.alloc _).below
def sumK (R:List (Value × List OEdit)) (k:Nat):Nat:=((R.take k).map fun q => q.2.length).sum
def allK (R:List (Value × List OEdit)):List OEdit:=R.flatMap fun q => q.2
theorem sumK_at {R:List (Value × List OEdit)} {k:Nat} {q:Value × List OEdit} (h:R[k]? = some q):sumK R (k + 1) = sumK R k + q.2.length:=by
 unfold sumK;rw [take_nth h,List.map_append,List.sum_append];simp
theorem sumK_le (R:List (Value × List OEdit)) (k:Nat):sumK R k≤sumK R R.length:=by
 unfold sumK;rw [List.take_length]
 conv => rhs;rw [← List.take_append_drop k R,List.map_append,List.sum_append]
 exact Nat.le_add_right _ _
theorem sumK_all (R:List (Value × List OEdit)):sumK R R.length = (allK R).length:=by
 unfold sumK allK;rw [List.take_length,List.length_flatMap]
theorem rows_of {w:World} {R:List (Value × List OEdit)} (h:∀ q∈R,Reads w [] (editsT q.2) q.1):∃ F:Nat→List Value,∀ k q,R[k]? = some q→IsRow w 5 q.1 q.2.length (F k)∧ReadsL w [] (q.2.flatMap editT) (F k):=by
 have:∀ k:Nat,∃ xs:List Value,∀ q:Value × List OEdit,R[k]? = some q→IsRow w 5 q.1 q.2.length xs∧ReadsL w [] (q.2.flatMap editT) xs:=fun k => by
  cases hk:R[k]? with
  | none => exact ⟨[],fun q h => by cases h⟩
  | some q =>
   obtain ⟨xs,h1,-,h2⟩:=Reads.toRow (h q (List.mem_of_getElem? hk));exact ⟨xs,fun q' e => by cases e;exact ⟨h1,h2⟩⟩
 exact ⟨fun k => Classical.choose (this k),fun k => Classical.choose_spec (this k)⟩
theorem reads_all {w:World}:∀ {R:List (Value × List OEdit)} {F:Nat→List Value},(∀ k q,R[k]? = some q→ReadsL w [] (q.2.flatMap editT) (F k))→ReadsL w [] ((allK R).flatMap editT) ((List.range R.length).flatMap F):=by
 intro R F h
 have:∀ k,k≤R.length→ReadsL w [] ((allK (R.take k)).flatMap editT) ((List.range k).flatMap F):=fun k => by
  induction k with
  | zero => intro _;exact ReadsL.nil _ _
  | succ k ih =>
   intro hk;have hq:R[k]? = some R[k]:=List.getElem?_eq_getElem (by omega);have e1:allK (R.take (k + 1)) = allK (R.take k) ++ R[k].2:=by unfold allK;rw [take_nth hq,List.flatMap_append];simp
   rw [e1,List.range_succ,List.flatMap_append,List.flatMap_append];refine ReadsL.append ?_ (ih (by omega));have:=h k _ hq
   simpa using this
 have:=this R.length (Nat.le_refl _);rwa [List.take_length] at this
set_option maxRecDepth 100000 in
set_option maxHeartbeats 4000000 in
theorem ConcatE_any (R:List (Value × List OEdit)) (b M:Nat) (w:World) (hM:R.length = M) (hr:∀ q∈R,Reads w [] (editsT q.2) q.1) (hb:b < w.heap.size) (hc:∀ k q,R[k]? = some q→w.cell? ⟨b,k,none⟩ = some q.1) (hs:sumK R R.length≤1000000) (hm:M≤1000) :
  Calls Tryz.prog 72 #[.slice (some ⟨b,0,none⟩) M M] w fun e w' => ∃ a c,e = .returned (.slice a (allK R).length c)∧Reads w' [] (editsT (allK R)) (.slice a (allK R).length c)∧Below w.heap.size w w':=by
 obtain ⟨i0,z,hi,hz0,hzs,hz1,hz2⟩:=info_parts' infoEdit;obtain ⟨N,hN⟩:∃ N:Nat,N = sumK R R.length:=⟨_,rfl⟩;have HG:=lH (GrowE_any N (by omega) w);obtain ⟨F,hF⟩:=rows_of hr;have HX:Hid (ReadsL w [] ((allK R).flatMap editT) ((List.range M).flatMap F)):=by show ReadsL _ _ _ _;rw [← hM];exact reads_all fun k q h => (hF k q h).2
 obtain ⟨S,XS,hS0,hX0,hS2,hX2,hK⟩:∃ (S:Nat→Nat) (XS:Nat→List Value),S 0 = 0∧XS 0 = []∧S M = N∧XS M = (List.range M).flatMap F ∧
   ∀ k,k < M→∃ a n c xs,w.cell? ⟨b,k,none⟩ = some (.slice a n c)∧S (k + 1) = S k + n∧S (k + 1)≤2000000∧IsRow w 5 (.slice a n c) n xs∧(∀ u∈xs,u.oneCell' = true)∧XS (k + 1) = XS k ++ xs:=by
  refine ⟨sumK R,fun k => (List.range k).flatMap F,rfl,rfl,by rw [hN,hM],rfl,fun k hk => ?_⟩;have hq:R[k]? = some R[k]:=List.getElem?_eq_getElem (by omega);obtain ⟨h1,h2⟩:=hF k _ hq;obtain ⟨_,a,c,e,_⟩:=h1;have h1:=(hF k _ hq).1;refine ⟨a,R[k].2.length,c,F k,by rw [← e];exact hc k _ hq,sumK_at hq,by have:=sumK_le R (k + 1);omega,by rw [← e];exact h1,edits_one h2,by show (List.range (k + 1)).flatMap F = _;rw [List.range_succ,List.flatMap_append];simp⟩
 have HK:=lH hK;have HS0:=lH hS0;have HX0:=lH hX0;have HS2:=lH hS2;have HX2':=lH hX2;have HN:Hid (N = (allK R).length):=by show _ = _;rw [hN];exact sumK_all R
 clear hN hr hF hS0 hX0 hS2 hX2 hK hc hs hM
 go_enter Tryz.func72,Tryz.ntmps72
 go_wp2
 go_loop [3,11] (fun sv iv => ∃ k:Nat,k≤M∧iv = .int .i64 k∧sv = .int .i64 (S k:Int)) (fun _ iv => M - (intOf iv).toNat)
 case atStart => exact ⟨0,by omega,rfl,by rw [HS0.out];rfl⟩
 case round =>
  obtain ⟨k,hk,rfl,rfl⟩:=hrel
  by_cases hk2:k < M
  ·have hd:decide ((k:Int) < (M:Int)) = true:=decide_eq_true (by omega)
   have hir:(k:Int) < (M:Int):=by omega
   obtain ⟨a,n,c,xs,hcell,hs1,hs2,-⟩:=HK.out k hk2;have HS1:=lH hs1;have q:wrap64 ((S k:Int) + (n:Int)) = (S (k + 1):Int):=by rw [hs1];unfold wrap64;omega
   have HQ:=lH q;clear hs1;have q3:¬ ((S (k + 1):Int) < 0):=by omega
   go_wp2
   go_round
   case rel => exact ⟨k + 1,by omega,by go_num,by rw [HQ.out]⟩
   case measure => simp [intOf];omega
  ·have hd:decide ((k:Int) < (M:Int)) = false:=decide_eq_false (by omega)
   obtain rfl:M = k:=by omega
   have HG2:Hid (Calls Tryz.prog 127 #[.slice none 0 0,.int .i64 (S M:Int)] w fun e w' => ∃ v,e = .returned v∧w'.ownsRow w.heap.size 35 5 v 0 []∧Below w.heap.size w w'):=by show Calls _ _ _ _ _;rw [HS2.out];exact HG.out
   clear HG hk hk2;go_wp2_with (fail)
   refine HG2.out.mono ?_;rintro e w1 ⟨v,rfl,hown,hb1⟩;have HOW:=lH hown;clear hown HG2 hd;go_wp2
   go_loopw [6,27] (fun sv iv wr => ∃ k:Nat,k≤M∧iv = .int .i64 k∧Hid (wr.ownsRow w.heap.size 35 5 sv (S k) (XS k))∧Below w.heap.size w wr) (fun _ iv _ => M - (intOf iv).toNat)
   case atStart => exact ⟨0,by omega,rfl,by rw [HS0.out,HX0.out];exact HOW,hb1⟩
   case round =>
    obtain ⟨k,hk,rfl,HO,hb'⟩:=hrel;clear HOW
    by_cases hk2:k < M
    ·have hd:decide ((k:Int) < (M:Int)) = true:=decide_eq_true (by omega)
     have hir:(k:Int) < (M:Int):=by omega
     obtain ⟨a,n,c,xs,hcell,hs1,hs2,hrow,hone,hxs⟩:=HK.out k hk2;have hc':=(hb'.cell (p:=⟨b,_,none⟩) hb).trans hcell;have hbr:b < wr.heap.size:=Nat.lt_of_lt_of_le hb hb'.size;have hsz:=hb'.size;have HS1:=lH hs1;have HXK:=lH hxs;have hle:S k + n≤2000000:=by omega
     have hrow':=hrow.below hb';have hown:=HO.out;clear hs1 hxs hs2 hcell hrow;go_wp2_with (at_builtin;refine wpList_append_row rfl _ _ 23 rfl w.heap.size 35 i0 _ 5 88 Tryz.underlying23 hi hz0 hz1 hz2 hzs (by decide) _ _ _ rfl hown _ _ _ rfl hrow' hone (by unfold maxLen;omega) (by omega) (by omega) ?_)
     intro v3 w3 hown3 hg3 hb3;have hB3:Below w.heap.size w w3:=hb'.grown hg3 hsz (fun j hj => (HO.out.lt j hj).1);rw [← HS1.out,← HXK.out] at hown3;have HO3:=lH hown3;clear hown3 hown;go_wp2;go_roundw
     case rel => exact ⟨k + 1,by omega,by go_num,HO3,hB3⟩
     case measure => simp [intOf];omega
    ·have hd:decide ((k:Int) < (M:Int)) = false:=decide_eq_false (by omega)
     obtain rfl:M = k:=by omega
     have HOF:=HO.out;rw [HS2.out,HX2'.out,HN.out] at HOF;obtain ⟨av,cv,rfl⟩:=owns_val HOF;have HF:=lH (Reads.ofRow (f:=editT) (l:=allK R) (X:=[]) (owns_row HOF) (fun _ b _ => by simp) (HX.out.below hb'));clear HO HOF;go_wp2;go_ret;exact ⟨av,cv,rfl,HF.out,hb'⟩
end Go.Proofs.YtdpnfkjafhbndaaGreatDoor

