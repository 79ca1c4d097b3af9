/- slices.Index and slices.Contains over conflicts. An append of one conflict; the law's count (chapter 33). -/
import Derived.Test.YtlgnedahnaojlaaGreatDoorFSI
import Derived.Test.YtlgnedahnaojlaaGreatDoorFYC
namespace Go.Proofs.YtlgnedahnaojlaaGreatDoor
open Go.RowKit Go.Shelf
attribute [local go_sem] Oper.semAt_some
attribute [local irreducible] Go.wpStill

def anySp (l : List OSpot) (s : OSpot) : Bool := l.any fun t => sameSp t s
theorem hasSpot_any (m : OMod) (s : OSpot) : hasSpot m s = anySp (spotsL m.label m.decls) s := by
 unfold hasSpot anySp sameSp; refine congrArg (fun f => List.any _ f) (funext fun t => ?_); rw [tl, tl]
theorem sameSp_comm (a b : OSpot) : sameSp a b = sameSp b a := by
 rw [Bool.eq_iff_iff, sameSp_iff, sameSp_iff]; exact eq_comm
theorem anySp_at {l : List OSpot} {s t : OSpot} {k : Nat} (hk : l[k]? = some t) (h : sameSp s t = true) : anySp l s = true :=
 List.any_eq_true.2 ⟨t, List.mem_of_getElem? hk, by rw [sameSp_comm]; exact h⟩
theorem anySp_none {l : List OSpot} {s : OSpot} (h : ∀ (k : Nat) (t : OSpot), k < l.length → l[k]? = some t → sameSp s t = false) : anySp l s = false := by
 unfold anySp; rw [List.any_eq_false]; intro t ht; obtain ⟨k, hk, rfl⟩ := List.getElem_of_mem ht; rw [Bool.not_eq_true, sameSp_comm]; exact h k _ hk (List.getElem?_eq_getElem hk)
theorem run_eqlSpot (a b : OSpot) (w : World) (av : Operand → Value) (x y : Operand) (hx : av x = .agg #[.string a.pack, .int .i64 a.kind, .int .i64 a.id, .int .i64 a.pos]) (hy : av y = .agg #[.string b.pack, .int .i64 b.kind, .int .i64 b.id, .int .i64 b.pos]) (o : Oper) (ho : o.op = .binOp .eql 51 x y 51) : (execOp av o).run Tryz.prog w = .ok (.value (.bool (sameSp a b))) w := by
 unfold execOp; simp [go_sem, ho, hx, hy, run_eqSpot]
set_option maxRecDepth 100000 in
set_option maxHeartbeats 2000000 in
theorem spIndex_any (l : List OSpot) (s : OSpot) (a : Option Addr) (c : Nat) (w : World) (h : Reads w [] (spotsT l) (.slice a l.length c)) (hn : l.length ≤ 1000000) :
  Calls Tryz.prog 101 #[.slice a l.length c, .agg #[.string s.pack, .int .i64 s.kind, .int .i64 s.id, .int .i64 s.pos]] w fun e w' => ∃ r : Int, e = .returned (.int .i64 r) ∧ decide (r ≥ 0) = anySp l s ∧ Below w.heap.size w w' := by
 have HL := lH h; clear h; have gs := CBox.new w 51 #[.string s.pack, .int .i64 s.kind, .int .i64 s.id, .int .i64 s.pos]; have hA := qalloc w (.cells #[.string s.pack, .int .i64 s.kind, .int .i64 s.id, .int .i64 s.pos] 51)
 go_enter Tryz.func101, Tryz.ntmps101
 go_upto_region 1 with (fail)
 generalize World.alloc w _ = W0 at *; have Gs := lH gs; have HA := lH hA; clear gs hA; obtain ⟨g0, hg0⟩ : ∃ g, w.heap.size = g := ⟨_, rfl⟩; rw [hg0] at Gs ⊢; clear hg0; go_wp2
 go_loopw [8] (fun iv wr => ∃ k : Nat, k ≤ l.length ∧ iv = .int .i64 k ∧ Hid (Below W0.heap.size W0 wr) ∧ Hid (∀ (i : Nat) (t : OSpot), i < k → l[i]? = some t → sameSp s t = false)) (fun iv _ => l.length - (intOf iv).toNat)
 case atStart => exact ⟨0, Nat.zero_le _, rfl, qrefl _, fun i t hi => by omega⟩
 case round =>
  obtain ⟨k, hk, rfl, HW, HK⟩ := hrel; have HB := lH (HA.out.trans (HW.out.mono HA.out.size))
  by_cases hkl : k < l.length
  ·obtain ⟨t, ht⟩ : ∃ t, l[k]? = some t := ⟨_, List.getElem?_eq_getElem hkl⟩
   have HLd := HL.out.below HB.out; obtain ⟨b, o, rfl, hb, e0, e1, e2, e3⟩ := spots_elem HLd ht; have hk1 : (k : Int) < (l.length : Int) := by omega
   have HY : Hid (sameSp s t = true → anySp l s = true) := fun h => anySp_at ht h
   have HN : Hid (sameSp s t = false → ∀ (i : Nat) (u : OSpot), i < k + 1 → l[i]? = some u → sameSp s u = false) := fun h i u hi hu => by
    by_cases e : i = k
    ·subst e; rw [ht] at hu; cases hu; exact h
    ·exact HK.out i u (by omega) hu
   obtain ⟨d0, d1, d2, d3, dl⟩ := cells4 (Gs.out.below HW.out); clear ht HLd HK; have hbw : b < wr.heap.size := Nat.lt_of_lt_of_le hb (Nat.le_refl _)
   cases hs : sameSp s t with
   | true =>
    have HM := lH (HY.out hs); clear HN HY; go_wp2_with (fail)
    refine wp_region_noPanic (region_lex (fun W => W.cell? ⟨g0, 0, none⟩ = some (.string s.pack) ∧ W.cell? ⟨g0, 1, none⟩ = some (.int .i64 s.kind) ∧ W.cell? ⟨g0, 2, none⟩ = some (.int .i64 s.id) ∧ W.cell? ⟨g0, 3, none⟩ = some (.int .i64 s.pos) ∧ W.cell? ⟨b, o + k * 4, none⟩ = some (.string t.pack) ∧ W.cell? ⟨b, o + k * 4 + 1, none⟩ = some (.int .i64 t.kind) ∧ W.cell? ⟨b, o + k * 4 + 2, none⟩ = some (.int .i64 t.id) ∧ W.cell? ⟨b, o + k * 4 + 3, none⟩ = some (.int .i64 t.pos) ∧ g0 < W.heap.size ∧ b < W.heap.size) [true, true, true, true, true, true] mixedK (by kernel_rfl) (fun _ _ _ _ _ h => h) ⟨d0, d1, d2, d3, e0, e1, e2, e3, dl, hbw⟩ (fun _ => ?_))
    iterate 5 (first | (refine lex_skip (by rfl) ?_; (try simp only [Act.put, List.setIfInBounds_toArray, List.set_cons_zero, List.set_cons_succ])) | (refine lex_take (v := ?_) (by rfl) ?_ ?_; rotate_left; (focus (intro wq hSw; (try dsimp only at hSw); go_simp; (try with_reducible rfl))); (try simp only [Act.put, List.setIfInBounds_toArray, List.set_cons_zero, List.set_cons_succ])))
    refine lex_take (v := .bool (sameSp s t)) (by rfl) (fun wq _ => run_eqlSpot s t wq _ _ _ rfl rfl _ rfl) ?_
    (try simp only [Act.put, List.setIfInBounds_toArray, List.set_cons_zero, List.set_cons_succ])
    rw [hs]; refine lex_end ?_; refine NoPanic.normal ?_; go_wp2; go_ret; exact ⟨(k : Int), rfl, by rw [HM.out]; simp, qtrans HB.out ((Mod.refl [] wr).drew.below)⟩
   | false =>
    have HM := lH (HN.out hs); clear HN HY; go_wp2_with (fail)
    refine wp_region_noPanic (region_lex (fun W => W.cell? ⟨g0, 0, none⟩ = some (.string s.pack) ∧ W.cell? ⟨g0, 1, none⟩ = some (.int .i64 s.kind) ∧ W.cell? ⟨g0, 2, none⟩ = some (.int .i64 s.id) ∧ W.cell? ⟨g0, 3, none⟩ = some (.int .i64 s.pos) ∧ W.cell? ⟨b, o + k * 4, none⟩ = some (.string t.pack) ∧ W.cell? ⟨b, o + k * 4 + 1, none⟩ = some (.int .i64 t.kind) ∧ W.cell? ⟨b, o + k * 4 + 2, none⟩ = some (.int .i64 t.id) ∧ W.cell? ⟨b, o + k * 4 + 3, none⟩ = some (.int .i64 t.pos) ∧ g0 < W.heap.size ∧ b < W.heap.size) [true, true, true, true, true, true] mixedK (by kernel_rfl) (fun _ _ _ _ _ h => h) ⟨d0, d1, d2, d3, e0, e1, e2, e3, dl, hbw⟩ (fun _ => ?_))
    iterate 5 (first | (refine lex_skip (by rfl) ?_; (try simp only [Act.put, List.setIfInBounds_toArray, List.set_cons_zero, List.set_cons_succ])) | (refine lex_take (v := ?_) (by rfl) ?_ ?_; rotate_left; (focus (intro wq hSw; (try dsimp only at hSw); go_simp; (try with_reducible rfl))); (try simp only [Act.put, List.setIfInBounds_toArray, List.set_cons_zero, List.set_cons_succ])))
    refine lex_take (v := .bool (sameSp s t)) (by rfl) (fun wq _ => run_eqlSpot s t wq _ _ _ rfl rfl _ rfl) ?_
    (try simp only [Act.put, List.setIfInBounds_toArray, List.set_cons_zero, List.set_cons_succ])
    rw [hs]; refine lex_end ?_; refine NoPanic.normal ?_; go_wp2; go_roundw
    case rel => exact ⟨k + 1, by omega, by go_num, qtrans HW.out ((Mod.refl [] wr).drew.below), HM⟩
    case measure => simp [intOf]; omega
  ·have hd2 : decide ((k : Int) < (l.length : Int)) = false := decide_eq_false (by omega)
   have HM : Hid (anySp l s = false) := anySp_none (fun i t hi ht => HK.out i t (by omega) ht); go_wp2; go_ret; exact ⟨-1, rfl, by rw [HM.out]; rfl, HB.out⟩
set_option maxRecDepth 100000 in
set_option maxHeartbeats 2000000 in
theorem spContains_any (l : List OSpot) (s : OSpot) (a : Option Addr) (c : Nat) (w : World) (h : Reads w [] (spotsT l) (.slice a l.length c)) (hn : l.length ≤ 1000000) :
  Calls Tryz.prog 59 #[.slice a l.length c, .agg #[.string s.pack, .int .i64 s.kind, .int .i64 s.id, .int .i64 s.pos]] w fun e w' => e = .returned (.bool (anySp l s)) ∧ Below w.heap.size w w' := by
 have hA := qalloc w (.cells #[.string s.pack, .int .i64 s.kind, .int .i64 s.id, .int .i64 s.pos] 51); have gs := CBox.new w 51 #[.string s.pack, .int .i64 s.kind, .int .i64 s.id, .int .i64 s.pos]; have HI := lH (spIndex_any l s a c _ (h.below hA) hn); have HA := lH hA
 go_enter Tryz.func59, Tryz.ntmps59
 obtain ⟨d0, d1, d2, d3, dl⟩ := cells4 gs; clear hA h; go_wp2_with (fail)
 refine HI.out.mono ?_; rintro e w2 ⟨r, rfl, hr, hb⟩; have HB := lH (qtrans HA.out hb); clear d0 d1 d2 d3 dl gs; go_wp2; go_returns; exact ⟨rfl, HB.out⟩
end Go.Proofs.YtlgnedahnaojlaaGreatDoor

namespace Go.Proofs.YtlgnedahnaojlaaGreatDoor
open Go.RowKit Go.Shelf
attribute [local go_sem] Oper.semAt_some
attribute [local irreducible] Go.wpStill

theorem wpList_spotO {ops : Array Oper} {rest : List Oper} {o : Oper} {a : Act} {Q : Exit → Act → World → Prop} (hgd : o.guard = none) (s x : Operand)
  (ho : o.op = .call { callee := .builtin .append, args := #[s, x], argTypes := #[48, 48] }) {w : World} {X : List Nat} {base : Nat} {v : Value} {L : List OSpot} (hs : a.eval s = v) (hown : OwnT w X base 51 4 spotT v L)
  {B : Nat} {sp : OSpot} (hx : a.eval x = .slice (some ⟨B, 0, none⟩) 1 1) (hbox : CBox w B 51 (spotA sp)) (hL : L.length ≤ 1000000) (hbase : base ≤ w.heap.size)
  (K : ∀ v' w', OwnT w' X base 51 4 spotT v' (L ++ [sp]) → Mod v.ownBlock.toList w w' → (∃ a c, v' = .slice a (L ++ [sp]).length c) → (∀ b, v'.ownBlock = some b → v.ownBlock = some b ∨ b = w.heap.size) → wpList Tryz.prog ops Q rest (a.put o.dst v') w') : wpList Tryz.prog ops Q (o :: rest) a w := by
 obtain ⟨i0, z, hi, hz0, hzs, hz1, hz2⟩ := info_parts' infoSpot; obtain ⟨xs, hrowo, hxr⟩ := hown
 have hrow : IsRow w 4 (.slice (some ⟨B, 0, none⟩) 1 1) 1 (spotA sp).toList := ⟨rfl, some ⟨B, 0, none⟩, 1, rfl, Nat.le_refl _, by unfold maxLen; omega, fun _ => ⟨B, 0, rfl, hbox.lt, fun j q hj => by
  rw [Nat.zero_add]; exact hbox.cell (i := j) (v := q) (by rw [← Array.getElem?_toList]; exact hj)⟩⟩
 refine wpList_append_row hgd s x 48 ho base 51 i0 z 4 40 Tryz.underlying48 hi hz0 hz1 hz2 hzs (by decide) v L.length xs hs hrowo (.slice (some ⟨B, 0, none⟩) 1 1) 1 (spotA sp).toList hx hrow
  (by intro q hq; simp only [spotA, List.mem_cons, List.not_mem_nil, or_false] at hq; rcases hq with rfl | rfl | rfl | rfl <;> rfl) (by unfold maxLen; omega) (by omega) hbase ?_
 intro v' w' ho' hg' hb'; have ho2 := OwnT.grown (f := spotT) (a := sp) hrowo hxr (news := (spotA sp).toList) (ReadsL.cons (Reads.leaf' _ _ _) (ReadsL.cons (Reads.leaf' _ _ _) (ReadsL.cons (Reads.leaf' _ _ _) (ReadsL.cons (Reads.leaf' _ _ _) (ReadsL.nil _ _))))) ho' hg' hb'; refine K v' w' ho2 (mod_of_grown hg') ?_ (fun b hb => ?_)
 ·obtain ⟨a, c, e, _⟩ := ho2.val
  exact ⟨a, c, e⟩
 ·rcases hb' with hb' | hb'
  ·exact .inl (hb' ▸ hb)
  ·rw [hb'] at hb; injection hb with hb; exact .inr hb.symm
theorem made_spots (w : World) (X : List Nat) : OwnT (w.alloc (.cells #[] 51)) X w.heap.size 51 4 spotT (.slice (some ⟨w.heap.size, 0, none⟩) 0 0) [] := ⟨[], World.ownsRow_made w #[] 0 (Nat.le_refl _) (Nat.zero_le _) rfl, by simp [ReadsL]⟩
theorem cnt_next {l : List OSpot} {k : Nat} {t : OSpot} (h : l[k]? = some t) (id : Int) : cntN (l.take (k + 1)) id = cntN (l.take k) id + (if !(t.kind == 4) && t.id == id then 1 else 0) ∧ restN (l.take (k + 1)) id = restN (l.take k) id ++ (if !(t.kind == 4) && !(t.id == id) then [t] else []) := by
 have e : l.take (k + 1) = l.take k ++ [t] := by rw [List.take_add_one, h]; rfl
 unfold cntN restN; rw [e, List.filter_append, List.filter_append, List.length_append]
 constructor
 ·cases hp : (!(t.kind == 4) && t.id == id) <;> simp [hp]
 ·cases hp : (!(t.kind == 4) && !(t.id == id)) <;> simp [hp]
set_option maxRecDepth 100000 in
set_option maxHeartbeats 2000000 in
theorem count33_any (l : List OSpot) (a : Option Addr) (c : Nat) (id : Int) (w : World) (h : Reads w [] (spotsT l) (.slice a l.length c)) (hn : l.length ≤ 1000000) :
  Calls Tryz.prog 34 #[.slice a l.length c, .int .i64 id] w fun e w' => ∃ v, e = .returned (.tuple #[.int .i64 (cntN l id), v]) ∧ Reads w' [] (spotsT (restN l id)) v ∧ Below w.heap.size w w' := by
 have HL := lH h; have HA : Hid (Below w.heap.size w (w.alloc (.cells #[] 51))) := qalloc w (.cells #[] 51); have HO := lH (made_spots w []); clear h
 go_enter Tryz.func34, Tryz.ntmps34
 go_upto_region 2 with (fail)
 generalize World.alloc w _ = W0 at *; generalize hB : w.heap.size = B at *; have HB := lH hB; clear hB; go_wp2
 go_loopw [6, 7, 13] (fun nv rv iv wr => ∃ (k : Nat) (n : Nat), k ≤ l.length ∧ iv = .int .i64 k ∧ nv = .int .i64 n ∧ n ≤ k ∧ Hid (n = cntN (l.take k) id) ∧ Hid (OwnT wr [] B 51 4 spotT rv (restN (l.take k) id)) ∧ Hid (Below B w wr)) (fun _ _ iv _ => l.length - (intOf iv).toNat)
 case atStart => exact ⟨0, 0, Nat.zero_le _, rfl, rfl, Nat.le_refl _, rfl, HO, HA⟩
 case round =>
  obtain ⟨k, n, hk, rfl, rfl, hnk, HN, HR, HW⟩ := hrel
  by_cases hkl : k < l.length
  ·have hd2 : decide ((k : Int) < (l.length : Int)) = true := decide_eq_true (by omega)
   obtain ⟨t, ht⟩ : ∃ t, l[k]? = some t := ⟨_, List.getElem?_eq_getElem hkl⟩; have HLd := HL.out.below (show Below w.heap.size w wr by rw [HB.out]; exact HW.out); obtain ⟨b, o, rfl, hb, e0, e1, e2, e3⟩ := spots_elem HLd ht; have hk1 : (k : Int) < (l.length : Int) := by omega
   have HCN := lH (cnt_next ht id); have hal := qalloc wr (.cells (spotA t) 51); have HTB := lH (CBox.new wr 51 (spotA t)); have HR8 := lH (HR.out.below hal); have HW8 : Hid (Below B w _) := HW.out.trans (hal.mono (by have h1 := HW.out.size; have h2 := HB.out; omega)); have HLN : Hid ((restN (l.take k) id).length ≤ 1000000) := by show _ ≤ _; unfold restN; have h1 := List.length_filter_le (fun t : OSpot => !(t.kind == 4) && !(t.id == id)) (l.take k); rw [List.length_take] at h1; omega
   unfold spotA at HTB HR8 HW8; clear ht HLd hal HR; go_upto_region 5 with (fail)
   clear e0 e1 e2 e3; generalize World.alloc wr _ = w8 at *; obtain ⟨E, hE⟩ : ∃ E, wr.heap.size = E := ⟨_, rfl⟩; rw [hE] at HTB ⊢; clear hE; have x1 := HTB.out.cell (i := 1) (v := .int .i64 t.kind) rfl; have x2 := HTB.out.cell (i := 2) (v := .int .i64 t.id) rfl; have xl := HTB.out.lt
   cases h4 : (t.kind == 4) with
   | true =>
    rw [h4] at HCN; have HN9 : Hid (n = cntN (l.take (k + 1)) id) := by show _ = _; rw [HCN.out.1, HN.out]; simp
    have HRN : Hid (∀ v, OwnT w8 [] B 51 4 spotT v (restN (l.take k) id) → OwnT w8 [] B 51 4 spotT v (restN (l.take (k + 1)) id)) := fun v h => by rw [HCN.out.2]; simpa using h
    have HR9 := lH (HRN.out _ HR8.out); go_wp2; go_roundw
    case rel => exact ⟨k + 1, n, by omega, by go_num, rfl, by omega, HN9, HR9, HW8⟩
    case measure => simp [intOf]; omega
   | false =>
    cases hi : (t.id == id) with
    | true =>
     rw [h4, hi] at HCN; have HN9 : Hid (n + 1 = cntN (l.take (k + 1)) id) := by show _ = _; rw [HCN.out.1, HN.out]; simp
     have HRN : Hid (∀ v, OwnT w8 [] B 51 4 spotT v (restN (l.take k) id) → OwnT w8 [] B 51 4 spotT v (restN (l.take (k + 1)) id)) := fun v h => by rw [HCN.out.2]; simpa using h
     have HR9 := lH (HRN.out _ HR8.out); go_wp2; go_roundw
     case rel => exact ⟨k + 1, n + 1, by omega, by go_num, by go_num, by omega, HN9, HR9, HW8⟩
     case measure => simp [intOf]; omega
    | false =>
     rw [h4, hi] at HCN; have HN9 : Hid (n = cntN (l.take (k + 1)) id) := by show _ = _; rw [HCN.out.1, HN.out]; simp
     have x0 := HTB.out.cell (i := 0) (v := .string t.pack) rfl; have x3 := HTB.out.cell (i := 3) (v := .int .i64 t.pos) rfl; have hal := qalloc w8 (.cells (spotA t) 51); have HOA := lH (HR8.out.below hal); have HSB := lH (CBox.new w8 51 (spotA t)); have HW9 : Hid (Below B w _) := HW8.out.trans (hal.mono (by have h1 := HW8.out.size; have h2 := HB.out; omega)); have hbs : B ≤ (w8.alloc (.cells (spotA t) 51)).heap.size := by have h1 := HW9.out.size; have h2 := HB.out; omega
     have hlen := HLN.out; clear hal HR8 HTB HLN; go_wp2_with (at_builtin; (refine wpList_spotO (v := u7) (X := []) (L := restN (l.take k) id) (B := w8.heap.size) (sp := t) rfl _ _ rfl rfl HOA.out rfl HSB.out hlen hbs ?_; rintro v' w' ho7 hm7 ⟨a7, c7, hv7⟩ hb7; have HO7 := lH ho7; have HM7 := lH hm7; clear ho7 hm7 x0 x1 x2 x3 xl))
     go_roundw
     case rel =>
      refine ⟨k + 1, n, by omega, by go_num, rfl, by omega, HN9, ?_, ?_⟩
      ·have hvv : v' = .slice a7 ((restN (l.take k) id).length + 1) c7 := by rw [hv7, List.length_append]; rfl
       rw [← hvv]; show OwnT _ _ _ _ _ _ _ _
       rw [HCN.out.2]
       simpa using HO7.out
      ·exact HW9.out.trans (HM7.out.upto hbs (fun g hg => HOA.out.ge (by simpa using hg)))
     case measure => simp [intOf]; omega
  ·have hd2 : decide ((k : Int) < (l.length : Int)) = false := decide_eq_false (by omega)
   obtain rfl : k = l.length := by omega
   rw [List.take_length] at HN HR; go_wp2; go_returns; exact ⟨_, by rw [← HN.out]; rfl, HR.out.reads0, show Below w.heap.size w wr by rw [HB.out]; exact HW.out⟩
end Go.Proofs.YtlgnedahnaojlaaGreatDoor

