/- slices.Grow and slices.Concat over declarations. slices.Concat over declarations, the result apart from blocks. -/
import Derived.Test.YtdpnfkjafhbndaaGreatDoorRT4
import Derived.Test.YtdpnfkjafhbndaaGreatDoorRShH
import Derived.Handy
namespace Go.Proofs.YtdpnfkjafhbndaaGreatDoor
open Go.RowKit Go.Shelf
attribute [local go_sem] Oper.semAt_some
theorem infoDecl:(Tryz.prog.info? 69).map (fun i => (i.zero.map (fun z => z.cells.size),i.size,i.bytes)) = some (some 11,11,136):=by kernel_rfl
theorem info_parts' {P:Program} {e:TypeId} {s sz b:Nat} (h:(P.info? e).map (fun i => (i.zero.map (fun z => z.cells.size),i.size,i.bytes)) = some (some s,sz,b)):∃ i z,P.info? e = some i∧i.zero = some z∧z.cells.size = s∧i.size = sz∧i.bytes = b:=by
 obtain ⟨i,hi,h2⟩:=Option.map_eq_some_iff.1 h
 injection h2 with e1 e2
 injection e2 with e2 e3
 obtain ⟨z,hz,e1⟩:=Option.map_eq_some_iff.1 e1;exact ⟨i,z,hi,hz,e1,e2,e3⟩
theorem decls_one {w:World} {X:List Nat}:∀ {l:List ODecl} {xs:List Value},ReadsL w X (l.flatMap declT) xs→∀ u∈xs,u.oneCell' = true:=by
 intro l
 induction l with
 | nil => intro xs h;rw [List.flatMap_nil,ReadsL] at h;subst h;intro u hu;cases hu
 | cons y r ih =>
  intro xs h u hu;rw [List.flatMap_cons] at h;have h1:=h.take 11;have h2:=h.drop 11;rw [List.take_left' (declT_len y)] at h1;rw [List.drop_left' (declT_len y)] at h2;rw [← List.take_append_drop 11 xs,List.mem_append] at hu
  rcases hu with hu | hu
  ·obtain ⟨an,cn,sa,c,e,_⟩:=decl_cells h1
   rw [e] at hu;simp only [declL,List.mem_cons,List.not_mem_nil,or_false] at hu
   rcases hu with rfl | rfl | rfl | rfl | rfl | rfl | rfl | rfl | rfl | rfl | rfl <;> rfl
  ·exact ih h2 u hu
theorem GrowD_any (n:Nat) (hn:n≤4000000) (w:World) :
  Calls Tryz.prog 221 #[.slice none 0 0,.int .i64 n] w fun e w' => ∃ v,e = .returned v∧w'.ownsRow w.heap.size 69 11 v 0 []∧Bw w w':=by
 rcases Nat.eq_zero_or_pos n with rfl | h
 ·refine (Any8.slices_Grow_room Tryz.grow0 none 0 0 0 w (Nat.le_refl _) (by omega) (by omega) (by omega)).mono ?_
  rintro e w' ⟨rfl,rfl⟩;exact ⟨_,rfl,World.ownsRow_nil _ _ _ _,qrefl _⟩
 ·obtain ⟨i,z,hi,hz,hzs,hs,hb⟩:=info_parts' infoDecl
  refine (Any8.slices_Grow_grow Tryz.grow0 i z hi hz (by omega) none 0 0 n [] w (Nat.le_refl _) (by omega) (by rw [hb];omega) (by omega) (by simp) (fun _ => rfl) (fun _ h => by cases h)).mono ?_;rintro e w' ⟨rfl,rfl⟩;refine ⟨_,rfl,?_,?_⟩
  ·have hge:=grownCap_ge w (0 + n) 0 69
   refine World.ownsRow_made (base:=w.heap.size) (size:=11) w.drew _ _ (Nat.le_refl _) (grownCap_le_maxLen w _ _ _ (by unfold maxLen;omega)) ?_;have e1:Tryz.grow0_ren.t 25 = 69:=rfl;rw [e1];simp only [Array.size_append,size_zeroCells,hzs,List.size_toArray,List.length_nil]
   omega
  ·exact ((Mod.refl [] w).drew.alloc _).below
set_option maxRecDepth 100000 in
set_option maxHeartbeats 4000000 in
theorem ConcatDX_any (w:World) (X:List Nat) (hX:∀ k,k∈X→k < w.heap.size) (l1 l2:List ODecl) (a1 a2:Option Addr) (c1 c2 b:Nat) (h1:Reads w X (declsT l1) (.slice a1 l1.length c1)) (h2:Reads w X (declsT l2) (.slice a2 l2.length c2)) (hb:b < w.heap.size)
  (hc0:w.cell? ⟨b,0,none⟩ = some (.slice a1 l1.length c1)) (hc1:w.cell? ⟨b,1,none⟩ = some (.slice a2 l2.length c2)) (hn1:l1.length≤1000000) (hn2:l2.length≤1000000) :
  Calls Tryz.prog 163 #[.slice (some ⟨b,0,none⟩) 2 2] w fun e w' => ∃ a c,e = .returned (.slice a (l1 ++ l2).length c)∧Reads w' X (declsT (l1 ++ l2)) (.slice a (l1 ++ l2).length c)∧Bw w w':=by
 obtain ⟨i0,z,hi,hz0,hzs,hz1,hz2⟩:=info_parts' infoDecl;obtain ⟨N,hN⟩:∃ N:Nat,N = l1.length + l2.length:=⟨_,rfl⟩;have HG:=lH (GrowD_any N (by omega) w);have HXX:=lH hX;obtain ⟨xs1,hr1,-,hx1⟩:=Reads.toRow h1;obtain ⟨xs2,hr2,-,hx2⟩:=Reads.toRow h2;have HR1:=lH hr1;have HR2:=lH hr2;have HO1:=lH (decls_one hx1);have HO2:=lH (decls_one hx2);have HX1:=lH hx1;have HX2:=lH hx2;have HX:Hid (ReadsL w X ((l1 ++ l2).flatMap declT) (xs1 ++ xs2)):=by show ReadsL _ _ _ _;rw [List.flatMap_append];exact ReadsL.append hx2 hx1
 obtain ⟨S,XS,hS0,hX0,hS2,hX2,hK⟩:∃ (S:Nat→Nat) (XS:Nat→List Value),S 0 = 0∧XS 0 = []∧S 2 = N∧XS 2 = xs1 ++ xs2 ∧
   ∀ k,k < 2→∃ a n c xs,w.cell? ⟨b,k,none⟩ = some (.slice a n c)∧S (k + 1) = S k + n∧S (k + 1)≤2000000∧IsRow w 11 (.slice a n c) n xs∧(∀ u∈xs,u.oneCell' = true)∧XS (k + 1) = XS k ++ xs:=by
  refine ⟨fun k => if k = 0 then 0 else if k = 1 then l1.length else N,fun k => if k = 0 then [] else if k = 1 then xs1 else xs1 ++ xs2,rfl,rfl,rfl,rfl,fun k hk => ?_⟩
  match k,hk with
  | 0,_ => exact ⟨a1,l1.length,c1,xs1,hc0,by simp,by simp;omega,hr1,decls_one hx1,by simp⟩
  | 1,_ => exact ⟨a2,l2.length,c2,xs2,hc1,by simp;omega,by simp;omega,hr2,decls_one hx2,by simp⟩
 have HK:=lH hK;have HS0:=lH hS0;have HX0:=lH hX0;have HS2:=lH hS2;have HX2':=lH hX2;have HN:=lH hN;clear hX hN h1 h2 hr1 hr2 hx1 hx2 hS0 hX0 hS2 hX2 hK hc0 hc1 HR1 HR2 HO1 HO2 HX1 HX2
 go_enter Tryz.func163,Tryz.ntmps163
 go_wp2
 go_loop [3,11] (fun sv iv => ∃ k:Nat,k≤2∧iv = .int .i64 k∧sv = .int .i64 (S k:Int)) (fun _ iv => 2 - (intOf iv).toNat)
 case atStart => exact ⟨0,by omega,rfl,by rw [HS0.out];rfl⟩
 case round =>
  obtain ⟨k,hk,rfl,rfl⟩:=hrel
  by_cases hk2:k < 2
  ·have hd:decide ((k:Int) < 2) = true:=decide_eq_true (by omega)
   have hir:(k:Int) < 2:=by omega
   obtain ⟨a,n,c,xs,hcell,hs1,hs2,-⟩:=HK.out k hk2;have HS1:=lH hs1;have q:wrap64 ((S k:Int) + (n:Int)) = (S (k + 1):Int):=by rw [hs1];unfold wrap64;omega
   have HQ:=lH q;clear hs1;have q3:¬ ((S (k + 1):Int) < 0):=by omega
   go_wp2
   go_round
   case rel => exact ⟨k + 1,by omega,by go_num,by rw [HQ.out]⟩
   case measure => simp [intOf];omega
  ·have hd:decide ((k:Int) < 2) = false:=decide_eq_false (by omega)
   obtain rfl:k = 2:=by omega
   have HG2:Hid (Calls Tryz.prog 221 #[.slice none 0 0,.int .i64 (S 2:Int)] w fun e w' => ∃ v,e = .returned v∧w'.ownsRow w.heap.size 69 11 v 0 []∧Bw w w'):=by show Calls _ _ _ _ _;rw [HS2.out];exact HG.out
   clear HG hk hk2;go_wp2_with (fail)
   refine HG2.out.mono ?_;rintro e w1 ⟨v,rfl,hown,hb1⟩;have HOW:=lH hown;clear hown HG2 hd;go_wp2
   go_loopw [6,27] (fun sv iv wr => ∃ k:Nat,k≤2∧iv = .int .i64 k∧Hid (wr.ownsRow w.heap.size 69 11 sv (S k) (XS k))∧Bw w wr) (fun _ iv _ => 2 - (intOf iv).toNat)
   case atStart => exact ⟨0,by omega,rfl,by rw [HS0.out,HX0.out];exact HOW,hb1⟩
   case round =>
    obtain ⟨k,hk,rfl,HO,hb'⟩:=hrel;clear HOW
    by_cases hk2:k < 2
    ·have hd:decide ((k:Int) < 2) = true:=decide_eq_true (by omega)
     have hir:(k:Int) < 2:=by omega
     obtain ⟨a,n,c,xs,hcell,hs1,hs2,hrow,hone,hxs⟩:=HK.out k hk2;have hc':=(hb'.cell (p:=⟨b,_,none⟩) hb).trans hcell;have hbr:b < wr.heap.size:=Nat.lt_of_lt_of_le hb hb'.size;have hsz:=hb'.size;have HS1:=lH hs1;have HXK:=lH hxs;have hle:S k + n≤2000000:=by omega
     have hrow':=hrow.below hb';have hown:=HO.out;clear hs1 hxs hs2 hcell hrow;go_wp2_with (at_builtin;refine wpList_append_row rfl _ _ 33 rfl w.heap.size 69 i0 _ 11 136 Tryz.underlying33 hi hz0 hz1 hz2 hzs (by decide) _ _ _ rfl hown _ _ _ rfl hrow' hone (by unfold maxLen;omega) (by omega) (by omega) ?_)
     intro v3 w3 hown3 hg3 hb3;have hB3:Bw w w3:=hb'.grown hg3 hsz (fun j hj => (HO.out.lt j hj).1);rw [← HS1.out,← HXK.out] at hown3;have HO3:=lH hown3;clear hown3 hown;go_wp2;go_roundw
     case rel => exact ⟨k + 1,by omega,by go_num,HO3,hB3⟩
     case measure => simp [intOf];omega
    ·have hd:decide ((k:Int) < 2) = false:=decide_eq_false (by omega)
     obtain rfl:k = 2:=by omega
     have HOF:=HO.out;rw [HS2.out,HX2'.out,HN.out,← List.length_append] at HOF;obtain ⟨av,cv,rfl⟩:=owns_val HOF;have HF:=lH (Reads.ofRow (f:=declT) (l:=l1 ++ l2) (X:=X) (owns_row HOF) (fun _ b hb hk => by have:=owns_block HOF hb;have:=HXX.out b hk;omega) (HX.out.below hb'));clear HO HOF;go_wp2;go_ret;exact ⟨av,cv,rfl,HF.out,hb'⟩
end Go.Proofs.YtdpnfkjafhbndaaGreatDoor

