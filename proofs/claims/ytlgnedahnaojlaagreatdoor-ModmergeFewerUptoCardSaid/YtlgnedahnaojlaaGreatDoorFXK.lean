/- slices.Concat, Sort and Compact over strings. -/
import Derived.Test.YtlgnedahnaojlaaGreatDoorFR7
import Derived.Test.YtlgnedahnaojlaaGreatDoorFShT
import Derived.Test.YtlgnedahnaojlaaGreatDoorFNC
namespace Go.Proofs.YtlgnedahnaojlaaGreatDoor
open Go.RowKit Go.Shelf
attribute [local go_sem] Oper.semAt_some

theorem GrowS_any (n : Nat) (hn : n ≤ 4000000) (w : World) :
  Calls Tryz.prog 108 #[.slice none 0 0, .int .i64 n] w fun e w' => ∃ v, e = .returned v ∧ w'.ownsRow w.heap.size 9 1 v 0 [] ∧ Bw w w' := by
 rcases Nat.eq_zero_or_pos n with rfl | h
 ·refine (Any8.slices_Grow_room Tryz.grow1 none 0 0 0 w (Nat.le_refl _) (by omega) (by omega) (by omega)).mono ?_
  rintro e w' ⟨rfl, rfl⟩; exact ⟨_, rfl, World.ownsRow_nil _ _ _ _, qrefl _⟩
 ·obtain ⟨i, hi, hz, hs, hb⟩ := info_parts infoStr
  refine (Any8.slices_Grow_grow Tryz.grow1 i _ hi hz (by omega) none 0 0 n [] w (Nat.le_refl _) (by omega) (by rw [hb]; omega) (by omega) (by simp) (fun _ => rfl) (fun _ h => by cases h)).mono ?_; rintro e w' ⟨rfl, rfl⟩; refine ⟨_, rfl, ?_, ?_⟩
  ·have hge := grownCap_ge w (0 + n) 0 9
   refine World.ownsRow_made (base := w.heap.size) (size := 1) w.drew _ _ (Nat.le_refl _) (grownCap_le_maxLen w _ _ _ (by unfold maxLen; omega)) ?_; have e1 : Tryz.grow1_ren.t 25 = 9 := rfl; rw [e1]; simp only [Array.size_append, size_zeroCells, (show (Value.string ⟨#[]⟩).cells.size = 1 from rfl), List.size_toArray, List.length_nil]
   omega
  ·exact ((Mod.refl [] w).drew.alloc _).below

set_option maxRecDepth 100000 in
set_option maxHeartbeats 4000000 in
theorem ConcatS_any (l1 l2 l3 : List ByteArray) (a1 a2 a3 : Option Addr) (c1 c2 c3 b : Nat) (w : World) (h1 : Strs w (.slice a1 l1.length c1) l1) (h2 : Strs w (.slice a2 l2.length c2) l2) (h3 : Strs w (.slice a3 l3.length c3) l3) (hb : b < w.heap.size)
  (hc0 : w.cell? ⟨b, 0, none⟩ = some (.slice a1 l1.length c1)) (hc1 : w.cell? ⟨b, 1, none⟩ = some (.slice a2 l2.length c2)) (hc2 : w.cell? ⟨b, 2, none⟩ = some (.slice a3 l3.length c3)) (hn1 : l1.length ≤ 1000000) (hn2 : l2.length ≤ 1000000) (hn3 : l3.length ≤ 1000000) :
  Calls Tryz.prog 65 #[.slice (some ⟨b, 0, none⟩) 3 3] w fun e w' => ∃ v, e = .returned v ∧ w'.ownsRow w.heap.size 9 1 v (l1 ++ (l2 ++ l3)).length ((l1 ++ (l2 ++ l3)).map .string) ∧ Bw w w' := by
 obtain ⟨i0, hi, hz0, hz1, hz2⟩ := info_parts infoStr; obtain ⟨N, hN⟩ : ∃ N : Nat, N = l1.length + (l2.length + l3.length) := ⟨_, rfl⟩; have HG := lH (GrowS_any N (by omega) w); have one : ∀ l : List ByteArray, ∀ u ∈ l.map Value.string, u.oneCell' = true := fun l u hu => by obtain ⟨s, _, rfl⟩ := List.mem_map.1 hu; rfl
 obtain ⟨S, XS, hS0, hX0, hS2, hX2, hK⟩ : ∃ (S : Nat → Nat) (XS : Nat → List Value), S 0 = 0 ∧ XS 0 = [] ∧ S 3 = N ∧ XS 3 = (l1 ++ (l2 ++ l3)).map .string ∧
   ∀ k, k < 3 → ∃ a n c xs, w.cell? ⟨b, k, none⟩ = some (.slice a n c) ∧ S (k + 1) = S k + n ∧ S (k + 1) ≤ 3000000 ∧ IsRow w 1 (.slice a n c) n xs ∧ (∀ u ∈ xs, u.oneCell' = true) ∧ XS (k + 1) = XS k ++ xs := by
  refine ⟨fun k => if k = 0 then 0 else if k = 1 then l1.length else if k = 2 then l1.length + l2.length else N, fun k => if k = 0 then [] else if k = 1 then l1.map .string else if k = 2 then (l1 ++ l2).map .string else (l1 ++ (l2 ++ l3)).map .string, rfl, rfl, rfl, rfl, fun k hk => ?_⟩
  match k, hk with
  | 0, _ => exact ⟨a1, l1.length, c1, l1.map .string, hc0, by simp, by simp; omega, h1, one _, by simp⟩
  | 1, _ => exact ⟨a2, l2.length, c2, l2.map .string, hc1, by simp, by simp; omega, h2, one _, by simp⟩
  | 2, _ => exact ⟨a3, l3.length, c3, l3.map .string, hc2, by simp; omega, by simp; omega, h3, one _, by simp⟩
 have HK := lH hK; have HS0 := lH hS0; have HX0 := lH hX0; have HS2 := lH hS2; have HX2' := lH hX2; have HN := lH hN; clear hN h1 h2 h3 hS0 hX0 hS2 hX2 hK hc0 hc1 hc2 one
 go_enter Tryz.func65, Tryz.ntmps65
 go_wp2
 go_loop [3, 11] (fun sv iv => ∃ k : Nat, k ≤ 3 ∧ iv = .int .i64 k ∧ sv = .int .i64 (S k : Int)) (fun _ iv => 3 - (intOf iv).toNat)
 case atStart => exact ⟨0, by omega, rfl, by rw [HS0.out]; rfl⟩
 case round =>
  obtain ⟨k, hk, rfl, rfl⟩ := hrel
  by_cases hk2 : k < 3
  ·have hd : decide ((k : Int) < 3) = true := decide_eq_true (by omega)
   have hir : (k : Int) < 3 := by omega
   obtain ⟨a, n, c, xs, hcell, hs1, hs2, -⟩ := HK.out k hk2; have HS1 := lH hs1; have q : wrap64 ((S k : Int) + (n : Int)) = (S (k + 1) : Int) := by rw [hs1]; unfold wrap64; omega
   have HQ := lH q; clear hs1; have q3 : ¬ ((S (k + 1) : Int) < 0) := by omega
   go_wp2
   go_round
   case rel => exact ⟨k + 1, by omega, by go_num, by rw [HQ.out]⟩
   case measure => simp [intOf]; omega
  ·have hd : decide ((k : Int) < 3) = false := decide_eq_false (by omega)
   obtain rfl : k = 3 := by omega
   have HG2 : Hid (Calls Tryz.prog 108 #[.slice none 0 0, .int .i64 (S 3 : Int)] w fun e w' => ∃ v, e = .returned v ∧ w'.ownsRow w.heap.size 9 1 v 0 [] ∧ Bw w w') := by show Calls _ _ _ _ _; rw [HS2.out]; exact HG.out
   clear HG hk hk2; go_wp2_with (fail)
   refine HG2.out.mono ?_; rintro e w1 ⟨v, rfl, hown, hb1⟩; have HOW := lH hown; clear hown HG2 hd; go_wp2
   go_loopw [6, 27] (fun sv iv wr => ∃ k : Nat, k ≤ 3 ∧ iv = .int .i64 k ∧ Hid (wr.ownsRow w.heap.size 9 1 sv (S k) (XS k)) ∧ Bw w wr) (fun _ iv _ => 3 - (intOf iv).toNat)
   case atStart => exact ⟨0, by omega, rfl, by rw [HS0.out, HX0.out]; exact HOW, hb1⟩
   case round =>
    obtain ⟨k, hk, rfl, HO, hb'⟩ := hrel; clear HOW
    by_cases hk2 : k < 3
    ·have hd : decide ((k : Int) < 3) = true := decide_eq_true (by omega)
     have hir : (k : Int) < 3 := by omega
     obtain ⟨a, n, c, xs, hcell, hs1, hs2, hrow, hone, hxs⟩ := HK.out k hk2; have hc' := (hb'.cell (p := ⟨b, _, none⟩) hb).trans hcell; have hbr : b < wr.heap.size := Nat.lt_of_lt_of_le hb hb'.size; have hsz := hb'.size; have HS1 := lH hs1; have HXK := lH hxs; have hle : S k + n ≤ 3000000 := by omega
     have hrow' := hrow.below hb'; have hown := HO.out; clear hs1 hxs hs2 hcell hrow; go_wp2_with (at_builtin; refine wpList_append_row rfl _ _ 22 rfl w.heap.size 9 i0 _ 1 16 Tryz.underlying22 hi hz0 hz1 hz2 rfl (by decide) _ _ _ rfl hown _ _ _ rfl hrow' hone (by unfold maxLen; omega) (by omega) (by omega) ?_)
     intro v3 w3 hown3 hg3 hb3; have hB3 : Bw w w3 := hb'.grown hg3 hsz (fun j hj => (HO.out.lt j hj).1); rw [← HS1.out, ← HXK.out] at hown3; have HO3 := lH hown3; clear hown3 hown; go_wp2; go_roundw
     case rel => exact ⟨k + 1, by omega, by go_num, HO3, hB3⟩
     case measure => simp [intOf]; omega
    ·have hd : decide ((k : Int) < 3) = false := decide_eq_false (by omega)
     obtain rfl : k = 3 := by omega
     have HOF := HO.out; rw [HS2.out, HX2'.out] at HOF; obtain ⟨av, cv, rfl⟩ := owns_val HOF; have HLE : Hid ((l1 ++ (l2 ++ l3)).length = N) := by show _ = _; rw [HN.out]; simp
     have HF := lH HOF; clear HO HOF; go_wp2; go_ret; exact ⟨_, rfl, by rw [HLE.out]; exact HF.out, hb'⟩


section
open Go.Sort
theorem map_encStr (zs : List (List UInt8)) : zs.map encStr = (zs.map ofL).map Value.string := by rw [List.map_map]; rfl
theorem SortS_any (ns : List ByteArray) (base : Nat) (v : Value) (w : World) (h : w.ownsRow base 9 1 v ns.length (ns.map .string)) (hn : ns.length ≤ 4000000) :
  Calls Tryz.prog 66 #[v] w fun e w' => e = .returned (.tuple #[]) ∧ w'.ownsRow base 9 1 v ns.length (((ns.map fun s => s.data.toList).mergeSort fun x y => decide (x ≤ y)).map encStr) ∧ Mod v.ownBlock.toList w w' := by
 have e0 : ns.map Value.string = (ns.map fun s => s.data.toList).map encStr := by rw [map_encStr]; congr 1; rw [List.map_map]; exact (List.map_id ns).symm.trans (List.map_congr_left fun s _ => (ofL_of s).symm)
 have el : ((ns.map fun s => s.data.toList).mergeSort fun x y => decide (x ≤ y)).length = (ns.map fun s => s.data.toList).length := by rw [List.length_mergeSort]
 have e1 : (ns.map fun s => s.data.toList).length = ns.length := List.length_map ..; rw [← e1] at h ⊢; rw [e0] at h; generalize (ns.map fun s => s.data.toList) = ss at *
 rcases Nat.eq_zero_or_pos ss.length with hz | hz
 ·have e := List.eq_nil_of_length_eq_zero hz
  subst e; obtain ⟨a, c, rfl⟩ := owns_val h; refine (AnyM.slices_Sort_string_none Tryz.sortA a c w).mono ?_; rintro e w5 ⟨rfl, rfl⟩; exact ⟨rfl, by simpa using h, Mod.refl _ _⟩
 ·rcases h.2 with ⟨hnil, h0⟩ | ⟨g, cap, cur, rfl, hbase, hb, h1, h2, h3, h4⟩
  ·exact absurd h0 (by omega)
  have hH : Holds encStr w g 0 ss.toArray := holds_of_block hb (by simpa using h4); have hgl : g < w.heap.size := (Array.getElem?_eq_some_iff.1 hb).1; refine (Tryz.sort_Strings g 0 cap ss w hH hgl (by omega)).mono ?_; rintro e w5 ⟨rfl, nn, os, rfl⟩; exact ⟨rfl, ownsRow_sorted el hbase hb h1 h2 h3, mod_of_grown (grownBy_sorted _)⟩
theorem compact_le (zs : List (List UInt8)) : (Lib.compact zs).length ≤ zs.length := by
 have key : ∀ (d : Array (List UInt8)) m, (Lib.compactUpTo d m).length ≤ m := by
  intro d m
  induction m with
  | zero => simp [Lib.compactUpTo]
  | succ m ih =>
   rw [Lib.compactUpTo_succ, List.length_append]; split
   ·simp; exact ih
   ·simp; omega
 have e : Lib.compactUpTo zs.toArray zs.toArray.size = Lib.compact zs := by simp [Lib.compact]
 have := key zs.toArray zs.toArray.size; rw [e] at this
 simpa using this
theorem row_prefix {w : World} {g n cap : Nat} {L : List (List UInt8)} {r : List Value} (h : IsRow w 1 (.slice (some ⟨g, 0, none⟩) n cap) n ((L.map ofL).map .string ++ r)) (hm : L.length ≤ n) : Strs w (.slice (some ⟨g, 0, none⟩) (L.map ofL).length cap) (L.map ofL) := by
 obtain ⟨_, a, c, e1, h1, h2, h3⟩ := h
 injection e1 with e1 e2 e3
 subst e1 e3; refine ⟨by simp, some ⟨g, 0, none⟩, cap, rfl, by rw [List.length_map]; omega, h2, fun hn => ?_⟩; obtain ⟨b, o, e4, hb, hc⟩ := h3 (by rw [List.length_map] at hn; omega); refine ⟨b, o, e4, hb, fun j u hj => hc j u ?_⟩; rw [List.getElem?_append_left (List.getElem?_eq_some_iff.1 hj).1]; exact hj
theorem CompactS_any (zs : List (List UInt8)) (base : Nat) (v : Value) (w : World) (h : w.ownsRow base 9 1 v zs.length (zs.map encStr)) (hn : zs.length ≤ 4000000) :
  Calls Tryz.prog 67 #[v] w fun e w' => ∃ a c, e = .returned (.slice a ((Lib.compact zs).map ofL).length c) ∧ Strs w' (.slice a ((Lib.compact zs).map ofL).length c) ((Lib.compact zs).map ofL) ∧ Mod v.ownBlock.toList w w' ∧ (Lib.compact zs).length ≤ zs.length := by
 rcases Nat.eq_zero_or_pos zs.length with hz | hz
 ·have e := List.eq_nil_of_length_eq_zero hz
  subst e; obtain ⟨a, c, rfl⟩ := owns_val h; refine (AnyG.slices_Compact_string_empty Tryz.compactS a c w).mono ?_; rintro e w5 ⟨rfl, rfl⟩; have hr := owns_row h; exact ⟨a, c, rfl, hr, Mod.refl _ _, Nat.le_refl _⟩
 ·rcases h.2 with ⟨hnil, h0⟩ | ⟨g, cap, cur, rfl, hbase, hb, h1, h2, h3, h4⟩
  ·exact absurd h0 (by omega)
  have hH : Holds encStr w g 0 zs.toArray := holds_of_block hb (by simpa using h4); have hle := compact_le zs; refine (AnyG.slices_Compact_string Tryz.compactS g 0 cap zs w hH (by omega) h1).mono ?_; rintro e w5 ⟨rfl, q, rfl⟩; have el : (Lib.compact zs ++ List.replicate (zs.length - (Lib.compact zs).length) []).length = zs.length := by rw [List.length_append, List.length_replicate]; omega
  have ho := ownsRow_sorted (n := q) (os := #[]) (ts := Lib.compact zs ++ List.replicate (zs.length - (Lib.compact zs).length) []) el hbase hb h1 h2 h3; rw [grow_empty] at ho; have hr := owns_row ho; rw [List.map_append, map_encStr] at hr; refine ⟨some ⟨g, 0, none⟩, cap, by rw [List.length_map], ?_, ?_, hle⟩
  ·exact row_prefix hr hle
  ·have := grownBy_sorted (w := w) (g := g) (n := q) (os := #[]) (Lib.compact zs ++ List.replicate (zs.length - (Lib.compact zs).length) []).toArray
   rw [grow_empty] at this; exact mod_of_grown this
end
end Go.Proofs.YtlgnedahnaojlaaGreatDoor

