/- The reference's Opposite of an expression. -/
import Derived.Test.YtlgnedahnaojlaaGreatDoorJYI
import Derived.Test.YtlgnedahnaojlaaGreatDoorJNC
namespace Go.Proofs.YtlgnedahnaojlaaGreatDoor
open Go.RowKit Go.Shelf
attribute [local go_sem] Oper.semAt_some

def exL (x : Ex) (a : Option Addr) (c : Nat) : List Value := [.int .i64 x.kind, .string x.name, .string x.more, .int .i64 x.num, .int .i64 x.den, .slice a x.subs.length c]
theorem exL_one (x : Ex) (a : Option Addr) (c : Nat) : ∀ u ∈ exL x a c, u.oneCell' = true := by
 intro u hu
 unfold exL at hu
 simp only [List.mem_cons, List.not_mem_nil, or_false] at hu
 rcases hu with rfl | rfl | rfl | rfl | rfl | rfl <;> rfl
theorem ExIn.owned {w : World} {X : List Nat} {x : Ex} {a : Option Addr} {c : Nat} (h : ExIn w X x a c) (v : Value) (hv : ∀ g, v.ownBlock = some g → w.heap.size ≤ g) : ExIn w (v.ownBlock.toList ++ X) x a c := by
 cases hb : v.ownBlock with
 | none => exact h
 | some g => exact h.more (hv g hb)
theorem wpList_expr {ops : Array Oper} {rest : List Oper} {o : Oper} {a : Act} {Q : Exit → Act → World → Prop} (hgd : o.guard = none) (s x : Operand)
  (ho : o.op = .call { callee := .builtin .append, args := #[s, x], argTypes := #[39, 39] }) {w : World} {X : List Nat} {base : Nat} {v : Value} {L : List Ex} (hs : a.eval s = v) (hown : OwnT w X base 41 6 exprT v L)
  {B : Nat} {y : Ex} {ya : Option Addr} {yc : Nat} (hx : a.eval x = .slice (some ⟨B, 0, none⟩) 1 1) (hbox : CBox w B 41 (exL y ya yc).toArray) (hd : ExIn w (v.ownBlock.toList ++ X) y ya yc) (hL : L.length ≤ 4000000) (hbase : base ≤ w.heap.size)
  (K : ∀ v' w', OwnT w' X base 41 6 exprT v' (L ++ [y]) → Mod v.ownBlock.toList w w' → (∃ a c, v' = .slice a (L ++ [y]).length c) → wpList Tryz.prog ops Q rest (a.put o.dst v') w') : wpList Tryz.prog ops Q (o :: rest) a w := by
 obtain ⟨i0, hi, hz0, hz1, hz2⟩ := info_parts infoExpr
 obtain ⟨xs, hrowo, hxr⟩ := hown
 have hrow : IsRow w 6 (.slice (some ⟨B, 0, none⟩) 1 1) 1 (exL y ya yc) := ⟨rfl, some ⟨B, 0, none⟩, 1, rfl, Nat.le_refl _, by unfold maxLen; omega, fun _ => ⟨B, 0, rfl, hbox.lt, fun j q hj => by
  rw [Nat.zero_add]; exact hbox.cell (i := j) (v := q) (by rw [← Array.getElem?_toList]; exact hj)⟩⟩
 refine wpList_append_row hgd s x 39 ho base 41 i0 _ 6 80 Tryz.underlying39 hi hz0 hz1 hz2 rfl (by decide) v L.length xs hs hrowo (.slice (some ⟨B, 0, none⟩) 1 1) 1 (exL y ya yc) hx hrow (exL_one y ya yc) (by unfold maxLen; omega) (by omega) hbase ?_
 intro v' w' ho' hg' hb'
 have ho2 := OwnT.grown (f := exprT) (a := y) hrowo hxr (cells_expr hd.subs) ho' hg' hb'
 refine K v' w' ho2 (mod_of_grown hg') ?_
 obtain ⟨a, c, e, _⟩ := ho2.val
 exact ⟨a, c, e⟩
theorem exprs_box {w : World} {X : List Nat} {B : Nat} (hX : B ∉ X) (es : List (Ex × Option Addr × Nat)) (h : CBox w B 41 ((es.flatMap fun t => exL t.1 t.2.1 t.2.2).toArray)) (hn : es.length ≤ 1000000)
  (hd : ∀ t ∈ es, ExIn w X t.1 t.2.1 t.2.2) : Reads w X (subsT (es.map (·.1))) (.slice (some ⟨B, 0, none⟩) es.length es.length) := by
 have hl : (es.map (·.1)).length = es.length := List.length_map _
 refine Reads.ofRow (xs := es.flatMap fun t => exL t.1 t.2.1 t.2.2) ?_ (fun _ k hk hx => ?_) ?_
 ·rw [hl]
  refine ⟨?_, some ⟨B, 0, none⟩, es.length, rfl, Nat.le_refl _, by unfold maxLen; omega, fun _ => ⟨B, 0, rfl, h.lt, fun j v hj => ?_⟩⟩
  ·clear h hl hn hd
   induction es with
   | nil => rfl
   | cons t es ih => rw [List.flatMap_cons, List.length_append, ih, List.length_cons]; simp [exL]; omega
  ·rw [Nat.zero_add]
   exact h.cell (by rw [← Array.getElem?_toList]; exact hj)
 ·simp [Value.ownBlock] at hk
  subst hk
  exact hX hx
 ·clear h hl hn
  induction es with
  | nil => exact ReadsL.nil _ _
  | cons t es ih =>
   rw [List.map_cons, List.flatMap_cons, List.flatMap_cons]
   exact ReadsL.append (ih (fun u hu => hd u (List.mem_cons_of_mem _ hu))) (cells_expr (hd t (List.mem_cons_self ..)).subs)
theorem opp_take {l : List Ex} {i : Nat} {u : Ex} (h : l[i]? = some u) : (l.take (i + 1)).map oppX = (l.take i).map oppX ++ [oppX u] := by
 rw [take_at h, List.map_append]; rfl
set_option maxRecDepth 100000 in
set_option maxHeartbeats 8000000 in
theorem r32Opposite_any (x : Ex) : ∀ (a : Option Addr) (c : Nat) (X : List Nat) (w : World), (∀ k, k ∈ X → k < w.heap.size) → ExIn w X x a c → nodesN x ≤ 1000000 →
  Calls Tryz.prog 55 #[exV x a c] w fun e w' => ∃ a' c', e = .returned (exV (oppX x) a' c') ∧ ExIn w' X (oppX x) a' c' ∧ Below w.heap.size w w' := by
 refine Ex.ind (P := fun x => ∀ (a : Option Addr) (c : Nat) (X : List Nat) (w : World), (∀ k, k ∈ X → k < w.heap.size) → ExIn w X x a c → nodesN x ≤ 1000000 →
  Calls Tryz.prog 55 #[exV x a c] w fun e w' => ∃ a' c', e = .returned (exV (oppX x) a' c') ∧ ExIn w' X (oppX x) a' c' ∧ Below w.heap.size w w') (fun x ih => ?_) x
 intro a c X w hX hx hN
 obtain ⟨hb, hr, hA⟩ := two_boxes w 41 41 #[.int .i64 x.kind, .string x.name, .string x.more, .int .i64 x.num, .int .i64 x.den, .slice a x.subs.length c] #[.int .i64 0, .string ⟨#[]⟩, .string ⟨#[]⟩, .int .i64 0, .int .i64 0, .slice none 0 0]
 have HIH := Lib.hid ih
 have HXX := Lib.hid hX
 have HXI := Lib.hid hx
 have HOP : Hid (oppX x = .mk x.kind x.name x.more x.num x.den (rev3 x.kind (x.subs.map oppX))) := oppX_eq x
 have hsl : x.subs.length ≤ 1000000 := by have h1 := nodesL_len x.subs; rw [nodesN_eq] at hN; omega
 clear ih hX hx
 unfold exV at HIH ⊢
 go_enter Tryz.func55, Tryz.ntmps55
 go_upto_region 1 with (fail)
 generalize (w.alloc (.cells #[.int .i64 x.kind, .string x.name, .string x.more, .int .i64 x.num, .int .i64 x.den, .slice a x.subs.length c] 41)).alloc (.cells #[.int .i64 0, .string ⟨#[]⟩, .string ⟨#[]⟩, .int .i64 0, .int .i64 0, .slice none 0 0] 41) = W0 at *
 obtain ⟨R, hR⟩ : ∃ R, w.heap.size + 1 = R := ⟨_, rfl⟩
 rw [hR] at hr ⊢
 have HRW : Hid (w.heap.size + 1 = R) := hR
 have HR := Lib.hid hr
 have HB := Lib.hid hb
 have HA := Lib.hid hA
 obtain ⟨B, hB⟩ : ∃ B, w.heap.size = B := ⟨_, rfl⟩
 rw [hB] at HB ⊢
 have HBW : Hid (w.heap.size = B) := hB
 clear hR hB hr hb hA
 have y0 := (HB.out).cell (i := 0) (v := .int .i64 x.kind) rfl
 have y1 := (HB.out).cell (i := 1) (v := .string x.name) rfl
 have y2 := (HB.out).cell (i := 2) (v := .string x.more) rfl
 have y3 := (HB.out).cell (i := 3) (v := .int .i64 x.num) rfl
 have y4 := (HB.out).cell (i := 4) (v := .int .i64 x.den) rfl
 have y5 := (HB.out).cell (i := 5) (v := .slice a x.subs.length c) rfl
 have yl := (HB.out).lt
 go_upto_region 3 with (fail)
 clear y0 y1 y2 y3 y4 y5 yl
 have HE6 := Lib.hid (CBox.new W0 41 #[.int .i64 x.kind, .string x.name, .string x.more, .int .i64 x.num, .int .i64 x.den, .slice none 0 0])
 have HB6 := Lib.hid (qalloc W0 (.cells #[.int .i64 x.kind, .string x.name, .string x.more, .int .i64 x.num, .int .i64 x.den, .slice none 0 0] 41))
 have hW0 := HB.out.lt
 have hR0 := HR.out.lt
 generalize W0.alloc (.cells #[.int .i64 x.kind, .string x.name, .string x.more, .int .i64 x.num, .int .i64 x.den, .slice none 0 0] 41) = w6 at *
 obtain ⟨Q, hQ⟩ : ∃ Q, W0.heap.size = Q := ⟨_, rfl⟩
 rw [hQ] at HE6 hW0 hR0 ⊢
 have HQW : Hid (W0.heap.size = Q ∧ B < Q ∧ R < Q) := ⟨hQ, hW0, hR0⟩
 clear hQ hW0 hR0
 have HB7 : Hid (∀ W, Below W0.heap.size W0 W → ∀ Y, (∀ k, k ∈ Y → W0.heap.size ≤ k) → ExIn W (Y ++ R :: X) x a c) := fun W hW Y hY => (((HXI.out.more (k := R) (by have := HRW.out; omega)).below HA.out).mores Y hY).below hW
 clear HXI
 go_wp2
 go_loopw [4] (fun iv wr => ∃ (i : Nat) (vv : Value), i ≤ x.subs.length ∧ iv = .int .i64 i ∧ Hid (OwnT wr (Q :: R :: X) (Q + 1) 41 6 exprT vv ((x.subs.take i).map oppX)) ∧ Hid (CBox wr Q 41 #[.int .i64 x.kind, .string x.name, .string x.more, .int .i64 x.num, .int .i64 x.den, vv]) ∧ Hid (Below W0.heap.size W0 wr)) (fun iv _ => x.subs.length - (intOf iv).toNat)
 case atStart => exact ⟨0, .slice none 0 0, Nat.zero_le _, rfl, OwnT.nil _ _ _ _ _ _, HE6, HB6⟩
 case round =>
  obtain ⟨i, vv, hil, rfl, HO, HE, HW⟩ := hrel
  have x5 := (HB.out.below HW.out).cell (i := 5) (v := .slice a x.subs.length c) rfl
  have q1 := (HB.out.below HW.out).lt
  by_cases hi : i < x.subs.length
  ·have hd : decide ((i : Int) < (x.subs.length : Int)) = true := decide_eq_true (by omega)
   have hir : (i : Int) < (x.subs.length : Int) := by omega
   go_upto_region 6 with (fail)
   obtain ⟨u, hu⟩ : ∃ u, x.subs[i]? = some u := ⟨_, List.getElem?_eq_getElem hi⟩
   have e5 := HE.out.cell (i := 5) (v := vv) rfl
   have q4 := HE.out.lt
   have hY : ∀ k, k ∈ (vv.ownBlock.toList ++ [Q]) → W0.heap.size ≤ k := by
    intro k hk
    have h3 := HQW.out.1
    rcases List.mem_append.1 hk with hk | hk
    ·have := HO.out.ge (by simpa using hk); omega
    ·rw [List.mem_singleton.1 hk]; omega
   have hYs : ∀ k, k ∈ (vv.ownBlock.toList ++ [Q]) ++ R :: X → k < wr.heap.size := by
    intro k hk
    rcases List.mem_append.1 hk with hk | hk
    ·rcases List.mem_append.1 hk with hk | hk
     ·exact HO.out.lt (by simpa using hk)
     ·rw [List.mem_singleton.1 hk]; exact q4
    ·have h9 := HQW.out
     rcases List.mem_cons.1 hk with rfl | hk
     ·omega
     ·have := HXX.out _ hk; have := HRW.out; omega
   have hBu := (HB7.out wr HW.out _ hY).subs
   obtain ⟨b1, o1, ua, uc, rfl, hb1, c0, c1, c2, c3, c4, c5, hu1, hu2, hur⟩ := subs_elem hBu hu
   have hum := List.mem_of_getElem? hu
   have hun := nodesN_sub hum
   have HCA := Lib.hid (fun w' (h' : Below wr.heap.size wr w') => HIH.out u hum ua uc _ w' (fun k hk => Nat.lt_of_lt_of_le (hYs k hk) h'.size) ⟨hur.below h', hu1, hu2⟩ (by omega))
   have HTK := Lib.hid (opp_take hu)
   have SW : Hid (∀ W : World, Below wr.heap.size wr W → (W.cell? ⟨Q, 5, none⟩ = some vv ∧ W.cell? ⟨B, 5, none⟩ = some (.slice (some ⟨b1, o1, none⟩) x.subs.length c) ∧ Q < W.heap.size ∧ B < W.heap.size ∧ b1 < W.heap.size ∧ W.cell? ⟨b1, o1 + i * 6, none⟩ = some (.int .i64 u.kind) ∧ W.cell? ⟨b1, o1 + i * 6 + 1, none⟩ = some (.string u.name) ∧ W.cell? ⟨b1, o1 + i * 6 + 2, none⟩ = some (.string u.more) ∧ W.cell? ⟨b1, o1 + i * 6 + 3, none⟩ = some (.int .i64 u.num) ∧ W.cell? ⟨b1, o1 + i * 6 + 4, none⟩ = some (.int .i64 u.den) ∧ W.cell? ⟨b1, o1 + i * 6 + 5, none⟩ = some (.slice ua u.subs.length uc))) := Lib.hid (fun W hW => ⟨(hW.cell (p := ⟨Q, _, none⟩) q4).trans e5, (hW.cell (p := ⟨B, _, none⟩) q1).trans x5, Nat.lt_of_lt_of_le q4 hW.size, Nat.lt_of_lt_of_le q1 hW.size, Nat.lt_of_lt_of_le hb1 hW.size, (hW.cell (p := ⟨b1, _, none⟩) hb1).trans c0, (hW.cell (p := ⟨b1, _, none⟩) hb1).trans c1, (hW.cell (p := ⟨b1, _, none⟩) hb1).trans c2, (hW.cell (p := ⟨b1, _, none⟩) hb1).trans c3, (hW.cell (p := ⟨b1, _, none⟩) hb1).trans c4, (hW.cell (p := ⟨b1, _, none⟩) hb1).trans c5⟩)
   clear hBu hum hun hur hu hu1 hu2 x5 e5 hY hYs c0 c1 c2 c3 c4 c5
   have hb0 : Below wr.heap.size wr wr.drew := (Mod.refl [] wr).drew.below
   generalize oppX u = y at *
   have HI : Hid (((x.subs.take i).map oppX).length = i) := by show _ = _; rw [List.length_map, List.length_take]; omega
   refine wp_region_noPanic (region_planG (fun W : World => W.cell? ⟨Q, 5, none⟩ = some vv ∧ W.cell? ⟨B, 5, none⟩ = some (.slice (some ⟨b1, o1, none⟩) x.subs.length c) ∧ Q < W.heap.size ∧ B < W.heap.size ∧ b1 < W.heap.size ∧ W.cell? ⟨b1, o1 + i * 6, none⟩ = some (.int .i64 u.kind) ∧ W.cell? ⟨b1, o1 + i * 6 + 1, none⟩ = some (.string u.name) ∧ W.cell? ⟨b1, o1 + i * 6 + 2, none⟩ = some (.string u.more) ∧ W.cell? ⟨b1, o1 + i * 6 + 3, none⟩ = some (.int .i64 u.num) ∧ W.cell? ⟨b1, o1 + i * 6 + 4, none⟩ = some (.int .i64 u.den) ∧ W.cell? ⟨b1, o1 + i * 6 + 5, none⟩ = some (.slice ua u.subs.length uc)) 9 [(true, 0), (true, 1), (true, 2), (true, 3), (true, 4), (true, 5), (true, 6), (false, 7), (false, 8)] mixedK (by kernel_rfl) (fun _ _ _ _ _ h => h) (SW.out _ hb0) ?_)
   iterate 7 (refine planG_take (v := ?_) rfl (by rfl) ?_ ?_; rotate_left; (focus (intro wq hSw; (try dsimp only at hSw); go_simp; (try rw [if_neg (by first | omega | (simp; omega))]); (try with_reducible rfl))); (try simp only [List.getElem_toArray, List.getElem_cons_succ, List.getElem_cons_zero, Act.put, List.setIfInBounds_toArray, List.set_cons_zero, List.set_cons_succ]))
   generalize wr.drew = v0 at *
   (refine planG_one rfl (by rfl) (fun K hK => ?_); go_simp)
   refine (HCA.out _ hb0).mono ?_
   rintro e v1 ⟨ya, yc, rfl, hyx, hqv⟩
   (try go_simp)
   have hbv := qtrans hb0 hqv
   refine hK.out _ _ (SW.out _ hbv) ?_; clear hK K; (try simp only [List.getElem_toArray, List.getElem_cons_succ, List.getElem_cons_zero, Act.put, List.setIfInBounds_toArray, List.set_cons_zero, List.set_cons_succ])
   have hbw := qtrans hbv (qalloc v1 (.cells #[.int .i64 y.kind, .string y.name, .string y.more, .int .i64 y.num, .int .i64 y.den, .slice ya y.subs.length yc] 41))
   have hyb := CBox.new v1 41 #[.int .i64 y.kind, .string y.name, .string y.more, .int .i64 y.num, .int .i64 y.den, .slice ya y.subs.length yc]
   have hy2 := hyx.below (qalloc v1 (.cells #[.int .i64 y.kind, .string y.name, .string y.more, .int .i64 y.num, .int .i64 y.den, .slice ya y.subs.length yc] 41))
   have hO2 := HO.out.below hbw
   have hE2 := HE.out.below hbw
   have hB2 : Below W0.heap.size W0 _ := HW.out.trans (hbw.mono HW.out.size)
   (refine planG_one rfl (by rfl) (fun K hK => ?_); go_simp)
   refine hK.out _ _ (SW.out _ hbw) ?_; clear hK K; (try simp only [List.getElem_toArray, List.getElem_cons_succ, List.getElem_cons_zero, Act.put, List.setIfInBounds_toArray, List.set_cons_zero, List.set_cons_succ])
   generalize v1.alloc (.cells #[.int .i64 y.kind, .string y.name, .string y.more, .int .i64 y.num, .int .i64 y.den, .slice ya y.subs.length yc] 41) = v2 at *
   generalize v1.heap.size = M at *
   have HOW := Lib.hid hO2
   have HYB := Lib.hid hyb
   have HY2 := Lib.hid hy2
   have HE2 := Lib.hid hE2
   have HB2 := Lib.hid hB2
   clear hyb hy2 hO2 hE2 hB2 hyx hqv hb0 hbv hbw SW HCA
   refine planG_end ?_
   simp only [List.drop_succ_cons, List.drop_zero]
   refine wpList_expr rfl _ _ rfl rfl HOW.out rfl (ya := ya) (yc := yc) (by exact HYB.out) (HY2.out.fewer (fun k hk => ?_)) (by rw [HI.out]; omega) (HE2.out.lt) ?_
   ·rcases List.mem_append.1 hk with hk | hk
    ·exact List.mem_append_left _ (List.mem_append_left _ hk)
    ·rcases List.mem_cons.1 hk with rfl | hk
     ·exact List.mem_append_left _ (List.mem_append_right _ (List.mem_singleton.2 rfl))
     ·exact List.mem_append_right _ hk
   intro v' v3 ho3 hM3 hv3
   obtain ⟨a4, c4, hv4⟩ := hv3
   rw [List.length_append, HI.out] at hv4
   have hv5 : v' = .slice a4 (i + 1) c4 := hv4
   clear hv4
   subst hv5
   have hge : ∀ k, k ∈ vv.ownBlock.toList → Q + 1 ≤ k := fun k hk => HO.out.ge (by simpa using hk)
   have HE3b := Lib.hid (HE2.out.mod hM3 (fun h => by have := hge _ h; omega))
   have HB3b : Hid (Below W0.heap.size W0 v3) := HB2.out.trans (hM3.upto HB2.out.size (fun k hk => by have := hge _ hk; have := HQW.out.1; omega))
   have HO3 : Hid (OwnT v3 (Q :: R :: X) (Q + 1) 41 6 exprT (.slice a4 (i + 1) c4) ((x.subs.take (i + 1)).map oppX)) := by
    show OwnT _ _ _ _ _ _ _ _
    rw [HTK.out]
    exact ho3
   clear hM3 hge HOW HYB HY2 HE2 HB2 ho3
   have e5 := HE3b.out.cell (i := 5) (v := vv) rfl
   have f5 := HE3b.out.frozen 5
   have el := HE3b.out.lt
   go_wp2
   refine NoPanic.normal ?_
   have HE4 : Hid (CBox (v3.setCell ⟨Q, 5, none⟩ (.slice a4 (i + 1) c4)) Q 41 #[.int .i64 x.kind, .string x.name, .string x.more, .int .i64 x.num, .int .i64 x.den, .slice a4 (i + 1) c4]) := HE3b.out.set 5 _
   have HM4 : Hid (Mod [Q] v3 (v3.setCell ⟨Q, 5, none⟩ (.slice a4 (i + 1) c4))) := (Mod.refl [Q] v3).setCell (p := ⟨Q, 5, none⟩) (by simp) _
   generalize (v3.setCell ⟨Q, 5, none⟩ (.slice a4 (i + 1) c4)) = v4 at *
   have HB4 : Hid (Below W0.heap.size W0 v4) := HB3b.out.trans (HM4.out.upto HB3b.out.size (fun k hk => by have := HQW.out.1; simp at hk; omega))
   have HO4 : Hid (OwnT v4 (Q :: R :: X) (Q + 1) 41 6 exprT (.slice a4 (i + 1) c4) ((x.subs.take (i + 1)).map oppX)) := HO3.out.mod (HM4.out.mono (by intro k hk; rw [List.mem_singleton.1 hk]; exact List.mem_cons_self ..)) (fun k hk hX => by
    have h1 := HO3.out.ge hk
    rcases List.mem_cons.1 hX with h | h
    ·omega
    ·rcases List.mem_cons.1 h with h | h
     ·have := HQW.out; omega
     ·have := HXX.out _ h; have := HRW.out; have := HQW.out; omega)
   clear e5 f5 el HE3b HO3 HM4 HB3b HO HE HW HI HTK
   go_wp2
   go_roundw
   case rel => exact ⟨i + 1, .slice a4 (i + 1) c4, by omega, by go_num, HO4, HE4, HB4⟩
   case measure => simp [intOf]; omega
  ·have hd : decide ((i : Int) < (x.subs.length : Int)) = false := decide_eq_false (by omega)
   obtain rfl : i = x.subs.length := by omega
   rw [List.take_of_length_le (Nat.le_refl _)] at HO
   obtain ⟨av, cv, rfl, hcv1, hcv2⟩ := HO.out.val
   rw [List.length_map] at HO HE hcv1
   have HCV : Hid (x.subs.length ≤ cv ∧ cv ≤ 9223372036854775807) := ⟨hcv1, hcv2⟩
   have HF : Hid (Reads wr (Q :: R :: X) (subsT (x.subs.map oppX)) (.slice av (x.subs.map oppX).length cv)) := by
    have h0 := HO.out.reads (fun k hk hX => by
     have h1 := HO.out.ge hk
     rcases List.mem_cons.1 hX with h | h
     ·omega
     ·rcases List.mem_cons.1 h with h | h
      ·have := HQW.out; omega
      ·have := HXX.out _ h; have := HRW.out; have := HQW.out; omega)
    show Reads _ _ _ _
    rw [List.length_map]
    exact h0
   clear hcv1 hcv2 hi HO hil
   have e0 := HE.out.cell (i := 0) (v := .int .i64 x.kind) rfl
   have e5 := HE.out.cell (i := 5) (v := .slice av x.subs.length cv) rfl
   have q4 := HE.out.lt
   have y0 := (HB.out.below HW.out).cell (i := 0) (v := .int .i64 x.kind) rfl

   by_cases hk : x.kind = 15
   ·have hkd : (x.kind == 15) = true := by simp [hk]
    by_cases hl : x.subs.length = 3
    ·have HK := Lib.hid hk
     have hl3 : 3 ≤ x.subs.length := Nat.le_of_eq hl.symm
     have hld : ((x.subs.length : Int) == 3) = true := by simp [hl]
     obtain ⟨p, q, r, hL⟩ : ∃ p q r, x.subs.map oppX = [p, q, r] := by
      have h3 : (x.subs.map oppX).length = 3 := by rw [List.length_map]; exact hl
      match x.subs.map oppX, h3 with
      | [p, q, r], _ => exact ⟨p, q, r, rfl⟩
     have HLL := Lib.hid hL
     have HF3 := HF.out
     rw [hL] at HF3
     obtain ⟨b1, o1, pa, pc, rfl, hb1, c0, c1, c2, c3, c4, c5, hp1, hp2, hpr⟩ := subs_elem HF3 (i := 0) (x := p) rfl
     obtain ⟨b2, o2, qa, qc, h2, hb2, d0, d1, d2, d3, d4, d5, hq1, hq2, hqr⟩ := subs_elem HF3 (i := 1) (x := q) rfl
     obtain ⟨b3, o3, ra, rc, h3, hb3, g0, g1, g2, g3, g4, g5, hr1, hr2, hrr⟩ := subs_elem HF3 (i := 2) (x := r) rfl
     cases h2
     cases h3
     have HPI := Lib.hid (⟨hpr.out, hp1, hp2⟩ : ExIn wr (Q :: R :: X) p pa pc)
     have HQI := Lib.hid (⟨hqr.out, hq1, hq2⟩ : ExIn wr (Q :: R :: X) q qa qc)
     have HRI := Lib.hid (⟨hrr.out, hr1, hr2⟩ : ExIn wr (Q :: R :: X) r ra rc)
     clear hk hl hL HF3 HF hp1 hp2 hpr hq1 hq2 hqr hr1 hr2 hrr hb2 hb3
     go_upto_region 8 with (fail)
     clear y0 e0
     have q4 := HE.out.lt
     simp only [Nat.zero_mul, Nat.one_mul, Nat.reduceMul, Nat.add_zero] at c0 c1 c2 c3 c4 c5 d0 d1 d2 d3 d4 d5 g0 g1 g2 g3 g4 g5
     have SW : Hid (∀ W : World, Below wr.heap.size wr W → (W.cell? ⟨Q, 5, none⟩ = some (.slice (some ⟨b1, o1, none⟩) x.subs.length cv) ∧ Q < W.heap.size ∧ b1 < W.heap.size ∧ W.cell? ⟨b1, o1, none⟩ = some (.int .i64 p.kind) ∧ W.cell? ⟨b1, o1 + 1, none⟩ = some (.string p.name) ∧ W.cell? ⟨b1, o1 + 2, none⟩ = some (.string p.more) ∧ W.cell? ⟨b1, o1 + 3, none⟩ = some (.int .i64 p.num) ∧ W.cell? ⟨b1, o1 + 4, none⟩ = some (.int .i64 p.den) ∧ W.cell? ⟨b1, o1 + 5, none⟩ = some (.slice pa p.subs.length pc) ∧ W.cell? ⟨b1, o1 + 6, none⟩ = some (.int .i64 q.kind) ∧ W.cell? ⟨b1, o1 + 6 + 1, none⟩ = some (.string q.name) ∧ W.cell? ⟨b1, o1 + 6 + 2, none⟩ = some (.string q.more) ∧ W.cell? ⟨b1, o1 + 6 + 3, none⟩ = some (.int .i64 q.num) ∧ W.cell? ⟨b1, o1 + 6 + 4, none⟩ = some (.int .i64 q.den) ∧ W.cell? ⟨b1, o1 + 6 + 5, none⟩ = some (.slice qa q.subs.length qc) ∧ W.cell? ⟨b1, o1 + 12, none⟩ = some (.int .i64 r.kind) ∧ W.cell? ⟨b1, o1 + 12 + 1, none⟩ = some (.string r.name) ∧ W.cell? ⟨b1, o1 + 12 + 2, none⟩ = some (.string r.more) ∧ W.cell? ⟨b1, o1 + 12 + 3, none⟩ = some (.int .i64 r.num) ∧ W.cell? ⟨b1, o1 + 12 + 4, none⟩ = some (.int .i64 r.den) ∧ W.cell? ⟨b1, o1 + 12 + 5, none⟩ = some (.slice ra r.subs.length rc))) := Lib.hid (fun W hW => ⟨(hW.cell (p := ⟨Q, _, none⟩) q4).trans e5, Nat.lt_of_lt_of_le q4 hW.size, Nat.lt_of_lt_of_le hb1 hW.size, (hW.cell (p := ⟨b1, _, none⟩) hb1).trans c0, (hW.cell (p := ⟨b1, _, none⟩) hb1).trans c1, (hW.cell (p := ⟨b1, _, none⟩) hb1).trans c2, (hW.cell (p := ⟨b1, _, none⟩) hb1).trans c3, (hW.cell (p := ⟨b1, _, none⟩) hb1).trans c4, (hW.cell (p := ⟨b1, _, none⟩) hb1).trans c5, (hW.cell (p := ⟨b1, _, none⟩) hb1).trans d0, (hW.cell (p := ⟨b1, _, none⟩) hb1).trans d1, (hW.cell (p := ⟨b1, _, none⟩) hb1).trans d2, (hW.cell (p := ⟨b1, _, none⟩) hb1).trans d3, (hW.cell (p := ⟨b1, _, none⟩) hb1).trans d4, (hW.cell (p := ⟨b1, _, none⟩) hb1).trans d5, (hW.cell (p := ⟨b1, _, none⟩) hb1).trans g0, (hW.cell (p := ⟨b1, _, none⟩) hb1).trans g1, (hW.cell (p := ⟨b1, _, none⟩) hb1).trans g2, (hW.cell (p := ⟨b1, _, none⟩) hb1).trans g3, (hW.cell (p := ⟨b1, _, none⟩) hb1).trans g4, (hW.cell (p := ⟨b1, _, none⟩) hb1).trans g5⟩)
     clear e5 hkd hld c0 c1 c2 c3 c4 c5 d0 d1 d2 d3 d4 d5 g0 g1 g2 g3 g4 g5
     have hb0 : Below wr.heap.size wr wr.drew := (Mod.refl [] wr).drew.below
     refine wp_region_noPanic (region_planG (fun W : World => W.cell? ⟨Q, 5, none⟩ = some (.slice (some ⟨b1, o1, none⟩) x.subs.length cv) ∧ Q < W.heap.size ∧ b1 < W.heap.size ∧ W.cell? ⟨b1, o1, none⟩ = some (.int .i64 p.kind) ∧ W.cell? ⟨b1, o1 + 1, none⟩ = some (.string p.name) ∧ W.cell? ⟨b1, o1 + 2, none⟩ = some (.string p.more) ∧ W.cell? ⟨b1, o1 + 3, none⟩ = some (.int .i64 p.num) ∧ W.cell? ⟨b1, o1 + 4, none⟩ = some (.int .i64 p.den) ∧ W.cell? ⟨b1, o1 + 5, none⟩ = some (.slice pa p.subs.length pc) ∧ W.cell? ⟨b1, o1 + 6, none⟩ = some (.int .i64 q.kind) ∧ W.cell? ⟨b1, o1 + 6 + 1, none⟩ = some (.string q.name) ∧ W.cell? ⟨b1, o1 + 6 + 2, none⟩ = some (.string q.more) ∧ W.cell? ⟨b1, o1 + 6 + 3, none⟩ = some (.int .i64 q.num) ∧ W.cell? ⟨b1, o1 + 6 + 4, none⟩ = some (.int .i64 q.den) ∧ W.cell? ⟨b1, o1 + 6 + 5, none⟩ = some (.slice qa q.subs.length qc) ∧ W.cell? ⟨b1, o1 + 12, none⟩ = some (.int .i64 r.kind) ∧ W.cell? ⟨b1, o1 + 12 + 1, none⟩ = some (.string r.name) ∧ W.cell? ⟨b1, o1 + 12 + 2, none⟩ = some (.string r.more) ∧ W.cell? ⟨b1, o1 + 12 + 3, none⟩ = some (.int .i64 r.num) ∧ W.cell? ⟨b1, o1 + 12 + 4, none⟩ = some (.int .i64 r.den) ∧ W.cell? ⟨b1, o1 + 12 + 5, none⟩ = some (.slice ra r.subs.length rc)) 13 [(true, 0), (true, 1), (true, 2), (true, 3), (true, 4), (true, 5), (true, 6), (true, 7), (true, 8), (true, 9), (true, 10), (true, 11), (false, 12)] mixedK (by kernel_rfl) (fun _ _ _ _ _ h => h) (SW.out _ hb0) ?_)
     iterate 12 (refine planG_take (v := ?_) rfl (by rfl) ?_ ?_; rotate_left; (focus (intro wq hSw; (try dsimp only at hSw); go_simp; (try rw [if_pos (by first | omega | (intro h; simp [h] at hl3))]); (try with_reducible rfl))); (try simp only [List.getElem_toArray, List.getElem_cons_succ, List.getElem_cons_zero, Act.put, List.setIfInBounds_toArray, List.set_cons_zero, List.set_cons_succ]))
     generalize wr.drew = v0 at *
     have hbw := qtrans hb0 (qalloc v0 (.cells #[.int .i64 r.kind, .string r.name, .string r.more, .int .i64 r.num, .int .i64 r.den, .slice ra r.subs.length rc, .int .i64 q.kind, .string q.name, .string q.more, .int .i64 q.num, .int .i64 q.den, .slice qa q.subs.length qc, .int .i64 p.kind, .string p.name, .string p.more, .int .i64 p.num, .int .i64 p.den, .slice pa p.subs.length pc] 41))
     have hyb := CBox.new v0 41 #[.int .i64 r.kind, .string r.name, .string r.more, .int .i64 r.num, .int .i64 r.den, .slice ra r.subs.length rc, .int .i64 q.kind, .string q.name, .string q.more, .int .i64 q.num, .int .i64 q.den, .slice qa q.subs.length qc, .int .i64 p.kind, .string p.name, .string p.more, .int .i64 p.num, .int .i64 p.den, .slice pa p.subs.length pc]
     have hM : wr.heap.size ≤ v0.heap.size := hb0.size
     (refine planG_one rfl (by rfl) (fun K hK => ?_); go_simp)
     refine hK.out _ _ (SW.out _ hbw) ?_; clear hK K; (try simp only [List.getElem_toArray, List.getElem_cons_succ, List.getElem_cons_zero, Act.put, List.setIfInBounds_toArray, List.set_cons_zero, List.set_cons_succ])
     refine planG_end ?_
     simp only [List.drop_succ_cons, List.drop_zero]
     generalize v0.alloc (.cells #[.int .i64 r.kind, .string r.name, .string r.more, .int .i64 r.num, .int .i64 r.den, .slice ra r.subs.length rc, .int .i64 q.kind, .string q.name, .string q.more, .int .i64 q.num, .int .i64 q.den, .slice qa q.subs.length qc, .int .i64 p.kind, .string p.name, .string p.more, .int .i64 p.num, .int .i64 p.den, .slice pa p.subs.length pc] 41) = v1 at *
     generalize v0.heap.size = M at *
     have HYB := Lib.hid hyb
     have HE1 := Lib.hid (HE.out.below hbw)
     have HB1 : Hid (Below W0.heap.size W0 v1) := HW.out.trans (hbw.mono HW.out.size)
     have HP1 := Lib.hid (HPI.out.below hbw)
     have HQ1 := Lib.hid (HQI.out.below hbw)
     have HR1 := Lib.hid (HRI.out.below hbw)
     have HMQ : Hid (Q < M) := Nat.lt_of_lt_of_le q4 hM
     clear hyb hbw hb0 hM SW HE HW HPI HQI HRI q4
     have e5 := HE1.out.cell (i := 5) (v := .slice (some ⟨b1, o1, none⟩) x.subs.length cv) rfl
     have f5 := HE1.out.frozen 5
     have el := HE1.out.lt
     go_wp2
     refine NoPanic.normal ?_
     have HE2 : Hid (CBox (v1.setCell ⟨Q, 5, none⟩ (.slice (some ⟨M, 0, none⟩) 3 3)) Q 41 #[.int .i64 x.kind, .string x.name, .string x.more, .int .i64 x.num, .int .i64 x.den, .slice (some ⟨M, 0, none⟩) 3 3]) := HE1.out.set 5 _
     have HM2 : Hid (Mod [Q] v1 (v1.setCell ⟨Q, 5, none⟩ (.slice (some ⟨M, 0, none⟩) 3 3))) := (Mod.refl [Q] v1).setCell (p := ⟨Q, 5, none⟩) (by simp) _
     generalize (v1.setCell ⟨Q, 5, none⟩ (.slice (some ⟨M, 0, none⟩) 3 3)) = v2 at *
     have HB2 : Hid (Below W0.heap.size W0 v2) := HB1.out.trans (HM2.out.upto HB1.out.size (fun k hk => by have := HQW.out.1; simp at hk; omega))
     have hm2 : Mod (Q :: R :: X) v1 v2 := HM2.out.mono (fun k hk => by rw [List.mem_singleton.1 hk]; exact List.mem_cons_self ..)
     have hMX : M ∉ Q :: R :: X := fun h => by
      have h1 := HMQ.out
      have h2 := HQW.out
      rcases List.mem_cons.1 h with h | h
      ·omega
      ·rcases List.mem_cons.1 h with h | h
       ·omega
       ·have := HXX.out _ h; have := HRW.out; omega
     have HF2 : Hid (Reads v2 (Q :: R :: X) (subsT [r, q, p]) (.slice (some ⟨M, 0, none⟩) 3 3)) := exprs_box hMX [(r, ra, rc), (q, qa, qc), (p, pa, pc)] (HYB.out.mod HM2.out (fun h => hMX (by rw [List.mem_singleton.1 h]; exact List.mem_cons_self ..))) (by simp) (fun t ht => by
      simp only [List.mem_cons, List.not_mem_nil, or_false] at ht
      rcases ht with rfl | rfl | rfl
      ·exact HR1.out.mod hm2
      ·exact HQ1.out.mod hm2
      ·exact HP1.out.mod hm2)
     clear e5 f5 el HE1 HB1 HP1 HQ1 HR1 HYB HM2 hm2 hMX HMQ hl3
     have e0 := (HE2.out).cell (i := 0) (v := .int .i64 x.kind) rfl
     have e1 := (HE2.out).cell (i := 1) (v := .string x.name) rfl
     have e2 := (HE2.out).cell (i := 2) (v := .string x.more) rfl
     have e3 := (HE2.out).cell (i := 3) (v := .int .i64 x.num) rfl
     have e4 := (HE2.out).cell (i := 4) (v := .int .i64 x.den) rfl
     have e5 := (HE2.out).cell (i := 5) (v := .slice (some ⟨M, 0, none⟩) 3 3) rfl
     have el := (HE2.out).lt
     have o0 := (HR.out.below HB2.out).cell (i := 0) (v := .int .i64 0) rfl
     have fo0 := (HR.out.below HB2.out).frozen 0
     have o1 := (HR.out.below HB2.out).cell (i := 1) (v := .string ⟨#[]⟩) rfl
     have fo1 := (HR.out.below HB2.out).frozen 1
     have o2 := (HR.out.below HB2.out).cell (i := 2) (v := .string ⟨#[]⟩) rfl
     have fo2 := (HR.out.below HB2.out).frozen 2
     have o3 := (HR.out.below HB2.out).cell (i := 3) (v := .int .i64 0) rfl
     have fo3 := (HR.out.below HB2.out).frozen 3
     have o4 := (HR.out.below HB2.out).cell (i := 4) (v := .int .i64 0) rfl
     have fo4 := (HR.out.below HB2.out).frozen 4
     have o5 := (HR.out.below HB2.out).cell (i := 5) (v := .slice none 0 0) rfl
     have fo5 := (HR.out.below HB2.out).frozen 5
     have ol := (HR.out.below HB2.out).lt
     go_wp2
     clear o0 o1 o2 o3 o4 o5 fo0 fo1 fo2 fo3 fo4 fo5 ol e0 e1 e2 e3 e4 e5 el
     obtain ⟨HC9, HM9⟩ := CBox.six (HR.out.below HB2.out) (.int .i64 x.kind) (.string x.name) (.string x.more) (.int .i64 x.num) (.int .i64 x.den) (.slice (some ⟨M, 0, none⟩) 3 3)
     generalize ((((((v2.setCell ⟨R, 0, none⟩ (.int .i64 x.kind)).setCell ⟨R, 1, none⟩ (.string x.name)).setCell ⟨R, 2, none⟩ (.string x.more)).setCell ⟨R, 3, none⟩ (.int .i64 x.num)).setCell ⟨R, 4, none⟩ (.int .i64 x.den)).setCell ⟨R, 5, none⟩ (.slice (some ⟨M, 0, none⟩) 3 3)) = WZ at *
     have r0 := HC9.cell (i := 0) (v := .int .i64 x.kind) rfl
     have r1 := HC9.cell (i := 1) (v := .string x.name) rfl
     have r2 := HC9.cell (i := 2) (v := .string x.more) rfl
     have r3 := HC9.cell (i := 3) (v := .int .i64 x.num) rfl
     have r4 := HC9.cell (i := 4) (v := .int .i64 x.den) rfl
     have r5 := HC9.cell (i := 5) (v := .slice (some ⟨M, 0, none⟩) 3 3) rfl
     refine bodyPost_ret (by simp [results, Tryz.results55, go_sem, r0, r1, r2, r3, r4, r5]; try rfl) rfl ?_
     clear r0 r1 r2 r3 r4 r5
     have hT : oppX x = .mk x.kind x.name x.more x.num x.den ([r, q, p]) := by
      have h := HOP.out
      rw [HLL.out] at h; rw [show rev3 x.kind [p, q, r] = [r, q, p] by rw [HK.out]; rfl] at h
      exact h
     have hwr := HA.out.trans (HB2.out.mono HA.out.size)
     have hd9 : Below w.heap.size w WZ := hwr.trans (HM9.upto hwr.size (by intro k hk; simp at hk; have := HRW.out; omega))
     have hF9 := (HM9.mono (fun k hk => by rw [List.mem_singleton.1 hk]; exact List.mem_cons_of_mem _ (List.mem_cons_self ..)) : Mod (Q :: R :: X) _ WZ)
     have hF8 := (HF2.out.mod hF9).fewer (Y := X) (fun k hk => List.mem_cons_of_mem _ (List.mem_cons_of_mem _ hk))
     rw [hT]
     refine ⟨_, _, ?_, ⟨hF8, ?_, ?_⟩, hd9⟩
     ·show Ending.returned (.agg #[.int .i64 x.kind, .string x.name, .string x.more, .int .i64 x.num, .int .i64 x.den, .slice (some ⟨M, 0, none⟩) 3 3]) = Ending.returned (.agg #[.int .i64 x.kind, .string x.name, .string x.more, .int .i64 x.num, .int .i64 x.den, .slice (some ⟨M, 0, none⟩) 3 3])
      rfl
     ·exact Nat.le_refl 3
     ·show 3 ≤ 9223372036854775807; omega
    ·have HK := Lib.hid hk
     have HL := Lib.hid hl
     have hld : ((x.subs.length : Int) == 3) = false := by simp; omega
     clear hk hl
     go_upto_region 9 with (fail)
     clear e0 e5 y0
     have e0 := (HE.out).cell (i := 0) (v := .int .i64 x.kind) rfl
     have e1 := (HE.out).cell (i := 1) (v := .string x.name) rfl
     have e2 := (HE.out).cell (i := 2) (v := .string x.more) rfl
     have e3 := (HE.out).cell (i := 3) (v := .int .i64 x.num) rfl
     have e4 := (HE.out).cell (i := 4) (v := .int .i64 x.den) rfl
     have e5 := (HE.out).cell (i := 5) (v := .slice av x.subs.length cv) rfl
     have el := (HE.out).lt
     have o0 := (HR.out.below HW.out).cell (i := 0) (v := .int .i64 0) rfl
     have fo0 := (HR.out.below HW.out).frozen 0
     have o1 := (HR.out.below HW.out).cell (i := 1) (v := .string ⟨#[]⟩) rfl
     have fo1 := (HR.out.below HW.out).frozen 1
     have o2 := (HR.out.below HW.out).cell (i := 2) (v := .string ⟨#[]⟩) rfl
     have fo2 := (HR.out.below HW.out).frozen 2
     have o3 := (HR.out.below HW.out).cell (i := 3) (v := .int .i64 0) rfl
     have fo3 := (HR.out.below HW.out).frozen 3
     have o4 := (HR.out.below HW.out).cell (i := 4) (v := .int .i64 0) rfl
     have fo4 := (HR.out.below HW.out).frozen 4
     have o5 := (HR.out.below HW.out).cell (i := 5) (v := .slice none 0 0) rfl
     have fo5 := (HR.out.below HW.out).frozen 5
     have ol := (HR.out.below HW.out).lt
     go_wp2
     clear o0 o1 o2 o3 o4 o5 fo0 fo1 fo2 fo3 fo4 fo5 ol e0 e1 e2 e3 e4 e5 el
     obtain ⟨HC9, HM9⟩ := CBox.six (HR.out.below HW.out) (.int .i64 x.kind) (.string x.name) (.string x.more) (.int .i64 x.num) (.int .i64 x.den) (.slice av x.subs.length cv)
     generalize ((((((wr.setCell ⟨R, 0, none⟩ (.int .i64 x.kind)).setCell ⟨R, 1, none⟩ (.string x.name)).setCell ⟨R, 2, none⟩ (.string x.more)).setCell ⟨R, 3, none⟩ (.int .i64 x.num)).setCell ⟨R, 4, none⟩ (.int .i64 x.den)).setCell ⟨R, 5, none⟩ (.slice av x.subs.length cv)) = WZ at *
     have r0 := HC9.cell (i := 0) (v := .int .i64 x.kind) rfl
     have r1 := HC9.cell (i := 1) (v := .string x.name) rfl
     have r2 := HC9.cell (i := 2) (v := .string x.more) rfl
     have r3 := HC9.cell (i := 3) (v := .int .i64 x.num) rfl
     have r4 := HC9.cell (i := 4) (v := .int .i64 x.den) rfl
     have r5 := HC9.cell (i := 5) (v := .slice av x.subs.length cv) rfl
     refine bodyPost_ret (by simp [results, Tryz.results55, go_sem, r0, r1, r2, r3, r4, r5]; try rfl) rfl ?_
     clear r0 r1 r2 r3 r4 r5
     have hT : oppX x = .mk x.kind x.name x.more x.num x.den (x.subs.map oppX) := by
      have h := HOP.out
      unfold rev3 at h; rw [if_neg (fun e => HL.out (by rw [← e.2, List.length_map]))] at h
      exact h
     have hwr := HA.out.trans (HW.out.mono HA.out.size)
     have hd9 : Below w.heap.size w WZ := hwr.trans (HM9.upto hwr.size (by intro k hk; simp at hk; have := HRW.out; omega))
     have hF9 := (HM9.mono (fun k hk => by rw [List.mem_singleton.1 hk]; exact List.mem_cons_of_mem _ (List.mem_cons_self ..)) : Mod (Q :: R :: X) _ WZ)
     have hF8 := (HF.out.mod hF9).fewer (Y := X) (fun k hk => List.mem_cons_of_mem _ (List.mem_cons_of_mem _ hk))
     rw [hT]
     refine ⟨_, _, ?_, ⟨hF8, ?_, ?_⟩, hd9⟩
     ·show Ending.returned (.agg #[.int .i64 x.kind, .string x.name, .string x.more, .int .i64 x.num, .int .i64 x.den, .slice av x.subs.length cv]) = Ending.returned (.agg #[.int .i64 x.kind, .string x.name, .string x.more, .int .i64 x.num, .int .i64 x.den, .slice av (x.subs.map oppX).length cv])
      rw [List.length_map]
     ·show (x.subs.map oppX).length ≤ cv; rw [List.length_map]; exact HCV.out.1
     ·exact HCV.out.2
   ·have hkd : (x.kind == 15) = false := by simp [hk]
    have HK := Lib.hid hk
    clear hk
    go_upto_region 9 with (fail)
    clear e0 e5 y0
    have e0 := (HE.out).cell (i := 0) (v := .int .i64 x.kind) rfl
    have e1 := (HE.out).cell (i := 1) (v := .string x.name) rfl
    have e2 := (HE.out).cell (i := 2) (v := .string x.more) rfl
    have e3 := (HE.out).cell (i := 3) (v := .int .i64 x.num) rfl
    have e4 := (HE.out).cell (i := 4) (v := .int .i64 x.den) rfl
    have e5 := (HE.out).cell (i := 5) (v := .slice av x.subs.length cv) rfl
    have el := (HE.out).lt
    have o0 := (HR.out.below HW.out).cell (i := 0) (v := .int .i64 0) rfl
    have fo0 := (HR.out.below HW.out).frozen 0
    have o1 := (HR.out.below HW.out).cell (i := 1) (v := .string ⟨#[]⟩) rfl
    have fo1 := (HR.out.below HW.out).frozen 1
    have o2 := (HR.out.below HW.out).cell (i := 2) (v := .string ⟨#[]⟩) rfl
    have fo2 := (HR.out.below HW.out).frozen 2
    have o3 := (HR.out.below HW.out).cell (i := 3) (v := .int .i64 0) rfl
    have fo3 := (HR.out.below HW.out).frozen 3
    have o4 := (HR.out.below HW.out).cell (i := 4) (v := .int .i64 0) rfl
    have fo4 := (HR.out.below HW.out).frozen 4
    have o5 := (HR.out.below HW.out).cell (i := 5) (v := .slice none 0 0) rfl
    have fo5 := (HR.out.below HW.out).frozen 5
    have ol := (HR.out.below HW.out).lt
    go_wp2
    clear o0 o1 o2 o3 o4 o5 fo0 fo1 fo2 fo3 fo4 fo5 ol e0 e1 e2 e3 e4 e5 el
    obtain ⟨HC9, HM9⟩ := CBox.six (HR.out.below HW.out) (.int .i64 x.kind) (.string x.name) (.string x.more) (.int .i64 x.num) (.int .i64 x.den) (.slice av x.subs.length cv)
    generalize ((((((wr.setCell ⟨R, 0, none⟩ (.int .i64 x.kind)).setCell ⟨R, 1, none⟩ (.string x.name)).setCell ⟨R, 2, none⟩ (.string x.more)).setCell ⟨R, 3, none⟩ (.int .i64 x.num)).setCell ⟨R, 4, none⟩ (.int .i64 x.den)).setCell ⟨R, 5, none⟩ (.slice av x.subs.length cv)) = WZ at *
    have r0 := HC9.cell (i := 0) (v := .int .i64 x.kind) rfl
    have r1 := HC9.cell (i := 1) (v := .string x.name) rfl
    have r2 := HC9.cell (i := 2) (v := .string x.more) rfl
    have r3 := HC9.cell (i := 3) (v := .int .i64 x.num) rfl
    have r4 := HC9.cell (i := 4) (v := .int .i64 x.den) rfl
    have r5 := HC9.cell (i := 5) (v := .slice av x.subs.length cv) rfl
    refine bodyPost_ret (by simp [results, Tryz.results55, go_sem, r0, r1, r2, r3, r4, r5]; try rfl) rfl ?_
    clear r0 r1 r2 r3 r4 r5
    have hT : oppX x = .mk x.kind x.name x.more x.num x.den (x.subs.map oppX) := by
     have h := HOP.out
     rw [rev3_not HK.out] at h
     exact h
    have hwr := HA.out.trans (HW.out.mono HA.out.size)
    have hd9 : Below w.heap.size w WZ := hwr.trans (HM9.upto hwr.size (by intro k hk; simp at hk; have := HRW.out; omega))
    have hF9 := (HM9.mono (fun k hk => by rw [List.mem_singleton.1 hk]; exact List.mem_cons_of_mem _ (List.mem_cons_self ..)) : Mod (Q :: R :: X) _ WZ)
    have hF8 := (HF.out.mod hF9).fewer (Y := X) (fun k hk => List.mem_cons_of_mem _ (List.mem_cons_of_mem _ hk))
    rw [hT]
    refine ⟨_, _, ?_, ⟨hF8, ?_, ?_⟩, hd9⟩
    ·show Ending.returned (.agg #[.int .i64 x.kind, .string x.name, .string x.more, .int .i64 x.num, .int .i64 x.den, .slice av x.subs.length cv]) = Ending.returned (.agg #[.int .i64 x.kind, .string x.name, .string x.more, .int .i64 x.num, .int .i64 x.den, .slice av (x.subs.map oppX).length cv])
     rw [List.length_map]
    ·show (x.subs.map oppX).length ≤ cv; rw [List.length_map]; exact HCV.out.1
    ·exact HCV.out.2
end Go.Proofs.YtlgnedahnaojlaaGreatDoor

