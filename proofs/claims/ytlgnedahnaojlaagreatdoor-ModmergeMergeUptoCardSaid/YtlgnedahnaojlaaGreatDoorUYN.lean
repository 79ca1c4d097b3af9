/- The reference's both of chapter 33. -/
import Derived.Test.YtlgnedahnaojlaaGreatDoorUYM
import Derived.Test.YtlgnedahnaojlaaGreatDoorUGE
import Derived.Deep.CutBlock
namespace Go.Proofs.YtlgnedahnaojlaaGreatDoor
open Go.RowKit Go.Shelf
attribute [local go_sem] Oper.semAt_some

section
variable {fa : Act} {w : World} {K : Act → World → Prop} {Q : Exit → Act → World → Prop} {o : Oper}
theorem opw_fieldD0 {x : Operand} {B : Nat} (ho : o.op = .fieldAddr 46 x 0) (hx : fa.eval x = .pointer (some ⟨B, 0, none⟩)) (h : K (fa.put o.dst (.pointer (some ⟨B, 0, none⟩))) w) : Oper.wp Tryz.prog o fa w K Q := by
 unfold Oper.wp execOp; simp only [ho, hx]
 go_simp
 exact h
theorem opw_fieldD2 {x : Operand} {B : Nat} (ho : o.op = .fieldAddr 46 x 2) (hx : fa.eval x = .pointer (some ⟨B, 0, none⟩)) (h : K (fa.put o.dst (.pointer (some ⟨B, 2, none⟩))) w) : Oper.wp Tryz.prog o fa w K Q := by
 unfold Oper.wp execOp; simp only [ho, hx]
 go_simp
 exact h
theorem opw_fieldD4 {x : Operand} {B : Nat} (ho : o.op = .fieldAddr 46 x 4) (hx : fa.eval x = .pointer (some ⟨B, 0, none⟩)) (h : K (fa.put o.dst (.pointer (some ⟨B, 4, none⟩))) w) : Oper.wp Tryz.prog o fa w K Q := by
 unfold Oper.wp execOp; simp only [ho, hx]
 go_simp
 exact h
theorem opw_loadInt {x : Operand} {B j : Nat} {i : Int} (ho : o.op = .load 3 x) (hx : fa.eval x = .pointer (some ⟨B, j, none⟩)) (_hB : B < w.heap.size) (hc : w.cell? ⟨B, j, none⟩ = some (.int .i64 i)) (h : K (fa.put o.dst (.int .i64 i)) w) : Oper.wp Tryz.prog o fa w K Q := by
 unfold Oper.wp execOp; simp only [ho, hx]
 go_simp
 exact h
theorem opw_loadBool {x : Operand} {B j : Nat} {i : Bool} (ho : o.op = .load 4 x) (hx : fa.eval x = .pointer (some ⟨B, j, none⟩)) (_hB : B < w.heap.size) (hc : w.cell? ⟨B, j, none⟩ = some (.bool i)) (h : K (fa.put o.dst (.bool i)) w) : Oper.wp Tryz.prog o fa w K Q := by
 unfold Oper.wp execOp; simp only [ho, hx]
 go_simp
 exact h
theorem opw_buildD {x y z : Operand} {i : Int} {p q : Bool} (ho : o.op = .build 46 #[(0, x), (2, y), (4, z)]) (hx : fa.eval x = .int .i64 i) (hy : fa.eval y = .bool p) (hz : fa.eval z = .bool q)
  (h : K (fa.put o.dst (.agg #[.int .i64 i, .int .i64 0, .bool p, .slice none 0 0, .bool q, .int .i64 0, .string ⟨#[]⟩, .string ⟨#[]⟩, .int .i64 0, .int .i64 0, .slice none 0 0])) w) : Oper.wp Tryz.prog o fa w K Q := by
 unfold Oper.wp execOp; simp only [ho, List.map_toArray, List.map_cons, List.map_nil, hx, hy, hz]
 go_simp
 exact h
theorem opw_allocD (ho : o.op = .alloc 46) (h : K (fa.put o.dst (.pointer (some ⟨w.heap.size, 0, none⟩))) (w.alloc (.cells dZ 46))) : Oper.wp Tryz.prog o fa w K Q := by
 unfold Oper.wp execOp; simp only [ho]
 go_simp
 exact h
theorem st_truth {x y z : Operand} {b l r : Bool} {ats : Array TypeId} (ho : o.op = .call { callee := .value (.func 83), args := #[x, y, z], argTypes := ats }) (hx : fa.eval x = .bool b) (hy : fa.eval y = .bool l) (hz : fa.eval z = .bool r)
  (h : K (fa.put o.dst (.bool (truthB b l r))) w) : Oper.wp Tryz.prog o fa w K Q := by
 refine opw_call (f := 83) (vs := #[.bool b, .bool l, .bool r]) ho rfl ?_ (enters_of Tryz.func83 (by kernel_rfl) rfl) ?_
 ·rw [← hx, ← hy, ← hz]; simp only [List.map_toArray, List.map_cons, List.map_nil]
 ·refine (r33truth_any b l r w).mono ?_
  rintro e w' ⟨rfl, rfl⟩; exact ⟨_, rfl, h⟩
end
def R1B (b l r : ODecl) (Bb Bl Br : Nat) (i : Nat) (v : Value) : Prop := match i with
  | 0 => v = .pointer (some ⟨Bl, 0, none⟩)
  | 1 => v = .int .i64 l.id
  | 2 => v = .pointer (some ⟨Bb, 2, none⟩)
  | 3 => v = .bool b.pub
  | 4 => v = .pointer (some ⟨Bl, 2, none⟩)
  | 5 => v = .bool l.pub
  | 6 => v = .pointer (some ⟨Br, 2, none⟩)
  | 7 => v = .bool r.pub
  | 8 => v = .bool (truthB b.pub l.pub r.pub)
  | 9 => v = .pointer (some ⟨Bb, 4, none⟩)
  | 10 => v = .bool b.doubt
  | 11 => v = .pointer (some ⟨Bl, 4, none⟩)
  | 12 => v = .bool l.doubt
  | 13 => v = .pointer (some ⟨Br, 4, none⟩)
  | 14 => v = .bool r.doubt
  | 15 => v = .bool (truthB b.doubt l.doubt r.doubt)
  | 16 => v = .agg #[.int .i64 l.id, .int .i64 0, .bool (truthB b.pub l.pub r.pub), .slice none 0 0, .bool (truthB b.doubt l.doubt r.doubt), .int .i64 0, .string ⟨#[]⟩, .string ⟨#[]⟩, .int .i64 0, .int .i64 0, .slice none 0 0]
  | _ => True
theorem kind_left {b l r : Int} (h : (l == r) = true ∨ (r == b) = true) : kindM b l r = l ∧ kindC b l r = false := by
 unfold kindM kindC; simp only [beq_iff_eq] at h
 rcases h with h | h <;> simp [h]
theorem kind_right {b l r : Int} (h1 : (l == r) = false) (h2 : (r == b) = false) (h3 : (l == b) = true) : kindM b l r = r ∧ kindC b l r = false := by
 simp only [beq_eq_false_iff_ne, beq_iff_eq] at h1 h2 h3
 unfold kindM kindC; rw [if_neg (by rintro (e | e); exact h1 e; exact h2 e), if_pos h3]; simp [h3]
theorem kind_none {b l r : Int} (h1 : (l == r) = false) (h2 : (r == b) = false) (h3 : (l == b) = false) : kindM b l r = min l r ∧ kindC b l r = true := by
 simp only [beq_eq_false_iff_ne] at h1 h2 h3
 unfold kindM kindC; rw [if_neg (by rintro (e | e); exact h1 e; exact h2 e), if_neg h3]; simp [h1, h2, h3]
set_option maxRecDepth 100000 in
set_option maxHeartbeats 8000000 in
theorem r33both_any (b l r : ODecl) (anb anl anr asb asl asr : Option Addr) (cnb cnl cnr csb csl csr : Nat) (X : List Nat) (w : World) (hX : ∀ k, k ∈ X → k < w.heap.size) (hb : DecX w X b anb cnb asb csb) (hl : DecX w X l anl cnl asl csl) (hr : DecX w X r anr cnr asr csr)
  (sb : SmD b) (sl : SmD l) (sr : SmD r) (nb : nodesN b.body ≤ 1000000) (nl : nodesN l.body ≤ 1000000) (nr : nodesN r.body ≤ 1000000) :
  Calls Tryz.prog 86 #[declV b anb cnb asb csb, declV l anl cnl asl csl, declV r anr cnr asr csr] w (MergedD b l r X w) := by
 have HX := lH hX; have HB := lH hb; have HL := lH hl; have HR := lH hr; have HSB := lH sb; have HSL := lH sl; have HSR := lH sr; obtain ⟨gb, gl, gr, go, hA, hs4⟩ := four_boxes w 46 (dA b anb cnb asb csb) (dA l anl cnl asl csl) (dA r anr cnr asr csr) dZ; clear hX hb hl hr sb sl sr; unfold declV
 go_enter Tryz.func86, Tryz.ntmps86
 go_upto_region 1 with (fail)
 generalize (((w.alloc (.cells (dA b anb cnb asb csb) 46)).alloc (.cells (dA l anl cnl asl csl) 46)).alloc (.cells (dA r anr cnr asr csr) 46)).alloc (.cells dZ 46) = W0 at *; generalize hn1 : w.heap.size + 1 = n1 at *; generalize hn2 : n1 + 1 = n2 at *; generalize hn3 : n2 + 1 = n3 at *; have m1 : w.heap.size < n1 := by omega
 have m2 : n1 < n2 := by omega
 have m3 : n2 < n3 := by omega
 have hsW : n3 < W0.heap.size := by omega
 clear hn1 hn2 hn3 hs4; have Gb := lH gb; have Gl := lH gl; have Gr := lH gr; have Go := lH go; clear gb gl gr go; refine wp_region_noPanic (region_relQ 18 (fun i v W => R1B b l r w.heap.size n1 n2 i v ∧ (i = 17 → ∃ k, v = .pointer (some ⟨k, 0, none⟩) ∧ W0.heap.size ≤ k ∧ CBox W k 46 dZ)) mixedK (by kernel_rfl) (fun _ _ _ h => h) (by kernel_rfl) (fun i v w w' h k => ⟨h.1, fun e => by obtain ⟨k9, e1, e2, e3⟩ := h.2 e; exact ⟨k9, e1, e2, e3.below k⟩⟩) ?_ ?_)
 ·show AllQ _ _ _ _ _ _ _ 0 (_ :: _)
  refine AllQ.step ?_ ?_
  ·intro fa vals w1 hf hbw hn
   refine ⟨(fun _ _ e => by cases e), fun K hK => ?_⟩; exact opw_fieldD0 rfl ((hf.out 4 (by kernel_rfl)).trans rfl) (hK.out _ _ (qrefl _) ⟨rfl, fun e => by cases e⟩)
  refine AllQ.step ?_ ?_
  ·intro fa vals w1 hf hbw hn
   refine ⟨(fun _ _ e => by cases e), fun K hK => ?_⟩; exact opw_loadInt rfl ((hf.at_ 0 11 (by decide) rfl).trans (hn 0 (by decide)).1) (Gl.out.below hbw).lt ((Gl.out.below hbw).cell (i := 0) (v := .int .i64 l.id) rfl) (hK.out _ _ (qrefl _) ⟨rfl, fun e => by cases e⟩)
  refine AllQ.step ?_ ?_
  ·intro fa vals w1 hf hbw hn
   refine ⟨(fun _ _ e => by cases e), fun K hK => ?_⟩; exact opw_fieldD2 rfl ((hf.out 3 (by kernel_rfl)).trans rfl) (hK.out _ _ (qrefl _) ⟨rfl, fun e => by cases e⟩)
  refine AllQ.step ?_ ?_
  ·intro fa vals w1 hf hbw hn
   refine ⟨(fun _ _ e => by cases e), fun K hK => ?_⟩; exact opw_loadBool rfl ((hf.at_ 2 13 (by decide) rfl).trans (hn 2 (by decide)).1) (Gb.out.below hbw).lt ((Gb.out.below hbw).cell (i := 2) (v := .bool b.pub) rfl) (hK.out _ _ (qrefl _) ⟨rfl, fun e => by cases e⟩)
  refine AllQ.step ?_ ?_
  ·intro fa vals w1 hf hbw hn
   refine ⟨(fun _ _ e => by cases e), fun K hK => ?_⟩; exact opw_fieldD2 rfl ((hf.out 4 (by kernel_rfl)).trans rfl) (hK.out _ _ (qrefl _) ⟨rfl, fun e => by cases e⟩)
  refine AllQ.step ?_ ?_
  ·intro fa vals w1 hf hbw hn
   refine ⟨(fun _ _ e => by cases e), fun K hK => ?_⟩; exact opw_loadBool rfl ((hf.at_ 4 15 (by decide) rfl).trans (hn 4 (by decide)).1) (Gl.out.below hbw).lt ((Gl.out.below hbw).cell (i := 2) (v := .bool l.pub) rfl) (hK.out _ _ (qrefl _) ⟨rfl, fun e => by cases e⟩)
  refine AllQ.step ?_ ?_
  ·intro fa vals w1 hf hbw hn
   refine ⟨(fun _ _ e => by cases e), fun K hK => ?_⟩; exact opw_fieldD2 rfl ((hf.out 5 (by kernel_rfl)).trans rfl) (hK.out _ _ (qrefl _) ⟨rfl, fun e => by cases e⟩)
  refine AllQ.step ?_ ?_
  ·intro fa vals w1 hf hbw hn
   refine ⟨(fun _ _ e => by cases e), fun K hK => ?_⟩; exact opw_loadBool rfl ((hf.at_ 6 17 (by decide) rfl).trans (hn 6 (by decide)).1) (Gr.out.below hbw).lt ((Gr.out.below hbw).cell (i := 2) (v := .bool r.pub) rfl) (hK.out _ _ (qrefl _) ⟨rfl, fun e => by cases e⟩)
  refine AllQ.step ?_ ?_
  ·intro fa vals w1 hf hbw hn
   refine ⟨(fun _ _ e => by cases e), fun K hK => ?_⟩; exact st_truth rfl ((hf.at_ 3 14 (by decide) rfl).trans (hn 3 (by decide)).1) ((hf.at_ 5 16 (by decide) rfl).trans (hn 5 (by decide)).1) ((hf.at_ 7 18 (by decide) rfl).trans (hn 7 (by decide)).1) (hK.out _ _ (qrefl _) ⟨rfl, fun e => by cases e⟩)
  refine AllQ.step ?_ ?_
  ·intro fa vals w1 hf hbw hn
   refine ⟨(fun _ _ e => by cases e), fun K hK => ?_⟩; exact opw_fieldD4 rfl ((hf.out 3 (by kernel_rfl)).trans rfl) (hK.out _ _ (qrefl _) ⟨rfl, fun e => by cases e⟩)
  refine AllQ.step ?_ ?_
  ·intro fa vals w1 hf hbw hn
   refine ⟨(fun _ _ e => by cases e), fun K hK => ?_⟩; exact opw_loadBool rfl ((hf.at_ 9 20 (by decide) rfl).trans (hn 9 (by decide)).1) (Gb.out.below hbw).lt ((Gb.out.below hbw).cell (i := 4) (v := .bool b.doubt) rfl) (hK.out _ _ (qrefl _) ⟨rfl, fun e => by cases e⟩)
  refine AllQ.step ?_ ?_
  ·intro fa vals w1 hf hbw hn
   refine ⟨(fun _ _ e => by cases e), fun K hK => ?_⟩; exact opw_fieldD4 rfl ((hf.out 4 (by kernel_rfl)).trans rfl) (hK.out _ _ (qrefl _) ⟨rfl, fun e => by cases e⟩)
  refine AllQ.step ?_ ?_
  ·intro fa vals w1 hf hbw hn
   refine ⟨(fun _ _ e => by cases e), fun K hK => ?_⟩; exact opw_loadBool rfl ((hf.at_ 11 22 (by decide) rfl).trans (hn 11 (by decide)).1) (Gl.out.below hbw).lt ((Gl.out.below hbw).cell (i := 4) (v := .bool l.doubt) rfl) (hK.out _ _ (qrefl _) ⟨rfl, fun e => by cases e⟩)
  refine AllQ.step ?_ ?_
  ·intro fa vals w1 hf hbw hn
   refine ⟨(fun _ _ e => by cases e), fun K hK => ?_⟩; exact opw_fieldD4 rfl ((hf.out 5 (by kernel_rfl)).trans rfl) (hK.out _ _ (qrefl _) ⟨rfl, fun e => by cases e⟩)
  refine AllQ.step ?_ ?_
  ·intro fa vals w1 hf hbw hn
   refine ⟨(fun _ _ e => by cases e), fun K hK => ?_⟩; exact opw_loadBool rfl ((hf.at_ 13 24 (by decide) rfl).trans (hn 13 (by decide)).1) (Gr.out.below hbw).lt ((Gr.out.below hbw).cell (i := 4) (v := .bool r.doubt) rfl) (hK.out _ _ (qrefl _) ⟨rfl, fun e => by cases e⟩)
  refine AllQ.step ?_ ?_
  ·intro fa vals w1 hf hbw hn
   refine ⟨(fun _ _ e => by cases e), fun K hK => ?_⟩; exact st_truth rfl ((hf.at_ 10 21 (by decide) rfl).trans (hn 10 (by decide)).1) ((hf.at_ 12 23 (by decide) rfl).trans (hn 12 (by decide)).1) ((hf.at_ 14 25 (by decide) rfl).trans (hn 14 (by decide)).1) (hK.out _ _ (qrefl _) ⟨rfl, fun e => by cases e⟩)
  refine AllQ.step ?_ ?_
  ·intro fa vals w1 hf hbw hn
   refine ⟨(fun _ _ e => by cases e), fun K hK => ?_⟩; exact opw_buildD rfl ((hf.at_ 1 12 (by decide) rfl).trans (hn 1 (by decide)).1) ((hf.at_ 8 19 (by decide) rfl).trans (hn 8 (by decide)).1) ((hf.at_ 15 26 (by decide) rfl).trans (hn 15 (by decide)).1) (hK.out _ _ (qrefl _) ⟨rfl, fun e => by cases e⟩)
  refine AllQ.step ?_ ?_
  ·intro fa vals w1 hf hbw hn
   refine ⟨(fun _ _ e => by cases e), fun K hK => ?_⟩; exact opw_allocD rfl (hK.out _ _ (qalloc _ _) ⟨trivial, fun _ => ⟨_, rfl, hbw.size, CBox.new _ _ _⟩⟩)
  exact trivial
 intro vals V2 hbw hr; have e16 : vals 16 = .agg #[.int .i64 l.id, .int .i64 0, .bool (truthB b.pub l.pub r.pub), .slice none 0 0, .bool (truthB b.doubt l.doubt r.doubt), .int .i64 0, .string ⟨#[]⟩, .string ⟨#[]⟩, .int .i64 0, .int .i64 0, .slice none 0 0] := (hr 16 (by decide)).1; obtain ⟨n4, e17, hbk, hbx⟩ := (hr 17 (by decide)).2 rfl; refine wpList_frame (h := by simp only [fullR, dstR, List.getElem?_toArray, List.getElem?_cons_succ, List.getElem?_cons_zero, Option.bind_some, Act.put, List.setIfInBounds_toArray, List.set_cons_zero, List.set_cons_succ, e16, e17]; rfl) ?_
 have HN4 : Hid (W0.heap.size ≤ n4 ∧ n3 < n4) := ⟨hbk, by omega⟩; clear hr e16 e17 hbk; generalize vals 0 = u80; generalize vals 1 = u81; generalize vals 2 = u82; generalize vals 3 = u83; generalize vals 4 = u84; generalize vals 5 = u85; generalize vals 6 = u86; generalize vals 7 = u87; generalize vals 8 = u88; generalize vals 9 = u89; generalize vals 10 = u810; generalize vals 11 = u811; generalize vals 12 = u812; generalize vals 13 = u813; generalize vals 14 = u814; generalize vals 15 = u815; simp only [List.drop_succ_cons, List.drop_zero]
 obtain ⟨z0, z1, z2, z3, z4, z5, z6, z7, z8, z9, z10, zl⟩ := cells11 hbx; obtain ⟨fz0, fz1, fz2, fz3, fz4, fz5, fz6, fz7, fz8, fz9, fz10⟩ := frozen11 hbx; go_wp2; refine NoPanic.normal ?_; clear z0 z1 z2 z3 z4 z5 z6 z7 z8 z9 z10 fz0 fz1 fz2 fz3 fz4 fz5 fz6 fz7 fz8 fz9 fz10 zl; obtain ⟨HC9, HM9⟩ := CBox.eleven hbx (.int .i64 l.id) (.int .i64 0) (.bool (truthB b.pub l.pub r.pub)) (.slice none 0 0) (.bool (truthB b.doubt l.doubt r.doubt)) (.int .i64 0) (.string ⟨#[]⟩) (.string ⟨#[]⟩) (.int .i64 0) (.int .i64 0) (.slice none 0 0)
 have HW2 : Hid (Bw W0 (((((((((((V2.setCell ⟨n4, 0, none⟩ (.int .i64 l.id)).setCell ⟨n4, 1, none⟩ (.int .i64 0)).setCell ⟨n4, 2, none⟩ (.bool (truthB b.pub l.pub r.pub))).setCell ⟨n4, 3, none⟩ (.slice none 0 0)).setCell ⟨n4, 4, none⟩ (.bool (truthB b.doubt l.doubt r.doubt))).setCell ⟨n4, 5, none⟩ (.int .i64 0)).setCell ⟨n4, 6, none⟩ (.string ⟨#[]⟩)).setCell ⟨n4, 7, none⟩ (.string ⟨#[]⟩)).setCell ⟨n4, 8, none⟩ (.int .i64 0)).setCell ⟨n4, 9, none⟩ (.int .i64 0)).setCell ⟨n4, 10, none⟩ (.slice none 0 0))) := hbw.trans (HM9.upto hbw.size (by intro q hq; simp at hq; have := HN4.out.1; omega))
 generalize World.setCell _ ⟨n4, 10, none⟩ _ = W2 at *; have HD2 := lH HC9; clear HC9 HM9 hbw hbx; obtain ⟨km, hkm⟩ : ∃ k, kindM b.kind l.kind r.kind = k := ⟨_, rfl⟩; obtain ⟨kc, hkc⟩ : ∃ k, kindC b.kind l.kind r.kind = k := ⟨_, rfl⟩; have HKM := lH hkm; have HKC := lH hkc; clear hkm hkc
 go_upto_block 0 with (fail)
 go_cut [] from 28 to 59 (fun wx => CBox wx n4 46 #[.int .i64 l.id, .int .i64 km, .bool (truthB b.pub l.pub r.pub), .slice none 0 0, .bool (truthB b.doubt l.doubt r.doubt || kc), .int .i64 0, .string ⟨#[]⟩, .string ⟨#[]⟩, .int .i64 0, .int .i64 0, .slice none 0 0] ∧ Bw W0 wx)
 case first =>
  have b1 := (Gb.out.below HW2.out).cell (i := 1) (v := .int .i64 b.kind) rfl; have bl := (Gb.out.below HW2.out).lt; have l1 := (Gl.out.below HW2.out).cell (i := 1) (v := .int .i64 l.kind) rfl; have ll := (Gl.out.below HW2.out).lt; have r1 := (Gr.out.below HW2.out).cell (i := 1) (v := .int .i64 r.kind) rfl; have rl := (Gr.out.below HW2.out).lt; have d1 := HD2.out.cell (i := 1) (v := .int .i64 0) rfl; have e1 := HD2.out.frozen 1; have d4 := HD2.out.cell (i := 4) (v := .bool (truthB b.doubt l.doubt r.doubt)) rfl; have e4 := HD2.out.frozen 4; have dl := HD2.out.lt
  cases k1 : (l.kind == r.kind) with
  | true =>
   obtain ⟨h1, h2⟩ := kind_left (b := b.kind) (.inl k1); have HP := lH (HKM.out.symm.trans h1); have HQ := lH (HKC.out.symm.trans h2); clear h1 h2; go_wp2; go_meet
   case rel => exact ⟨by rw [HP.out, HQ.out]; rw [Bool.or_false]; exact HD2.out.set 1 _, HW2.out.trans (((Mod.refl [n4] W2).setCell (p := ⟨n4, 1, none⟩) (by simp) (.int .i64 l.kind)).upto HW2.out.size (by intro q hq; simp at hq; have := HN4.out.1; omega))⟩
  | false =>
   cases k2 : (r.kind == b.kind) with
   | true =>
    obtain ⟨h1, h2⟩ := kind_left (l := l.kind) (.inr k2); have HP := lH (HKM.out.symm.trans h1); have HQ := lH (HKC.out.symm.trans h2); clear h1 h2; go_wp2; go_meet
    case rel => exact ⟨by rw [HP.out, HQ.out]; rw [Bool.or_false]; exact HD2.out.set 1 _, HW2.out.trans (((Mod.refl [n4] W2).setCell (p := ⟨n4, 1, none⟩) (by simp) (.int .i64 l.kind)).upto HW2.out.size (by intro q hq; simp at hq; have := HN4.out.1; omega))⟩
   | false =>
    cases k3 : (l.kind == b.kind) with
    | true =>
     obtain ⟨h1, h2⟩ := kind_right k1 k2 k3; have HP := lH (HKM.out.symm.trans h1); have HQ := lH (HKC.out.symm.trans h2); clear h1 h2; go_wp2; go_meet
     case rel => exact ⟨by rw [HP.out, HQ.out]; rw [Bool.or_false]; exact HD2.out.set 1 _, HW2.out.trans (((Mod.refl [n4] W2).setCell (p := ⟨n4, 1, none⟩) (by simp) (.int .i64 r.kind)).upto HW2.out.size (by intro q hq; simp at hq; have := HN4.out.1; omega))⟩
    | false =>
     obtain ⟨h1, h2⟩ := kind_none k1 k2 k3; have HP := lH (HKM.out.symm.trans h1); have HQ := lH (HKC.out.symm.trans h2); clear h1 h2; go_wp2; go_meet
     case rel => exact ⟨by rw [HP.out, HQ.out]; rw [Bool.or_true]; exact (HD2.out.set 1 _).set 4 _, HW2.out.trans ((((Mod.refl [n4] W2).setCell (p := ⟨n4, 1, none⟩) (by simp) (.int .i64 (min l.kind r.kind))).setCell (p := ⟨n4, 4, none⟩) (by simp) (.bool true)).upto HW2.out.size (by intro q hq; simp at hq; have := HN4.out.1; omega))⟩
 case rest =>
 obtain ⟨hd5, hw5⟩ := hcut; generalize wc = W5 at *; have HD5 := lH hd5; have HW5 := lH hw5; clear hd5 hw5 HD2 HW2; have b3 := (Gb.out.below HW5.out).cell (i := 3) (v := .slice anb b.names.length cnb) rfl; have bl := (Gb.out.below HW5.out).lt; have l3 := (Gl.out.below HW5.out).cell (i := 3) (v := .slice anl l.names.length cnl) rfl; have ll := (Gl.out.below HW5.out).lt; have r3 := (Gr.out.below HW5.out).cell (i := 3) (v := .slice anr r.names.length cnr) rfl; have rl := (Gr.out.below HW5.out).lt; have HWA := lH (hA.trans (HW5.out.mono hA.size))
 have HMR : Hid (∀ (d : ODecl) (an : Option Addr) (cn : Nat) (sa : Option Addr) (cs : Nat), DecX w X d an cn sa cs → DecX W5 (n4 :: n3 :: X) d an cn sa cs) := fun d an cn sa cs h => ((h.more (k := n3) (by omega)).more (k := n4) (by have := HN4.out.2; omega)).below HWA.out
 have HXs : ∀ k, k ∈ n4 :: n3 :: X → k < W5.heap.size := fun k hk => by
  have h1 := HD5.out.lt
  rcases List.mem_cons.1 hk with rfl | hk
  ·exact h1
  ·rcases List.mem_cons.1 hk with rfl | hk
   ·have := HN4.out.2; omega
   ·have := HX.out k hk; have := HWA.out.size; omega
 have HCS := lH (r33names_any b.names l.names r.names anb anl anr cnb cnl cnr (n4 :: n3 :: X) W5 HXs (HMR.out _ _ _ _ _ HB.out).names (HMR.out _ _ _ _ _ HL.out).names (HMR.out _ _ _ _ _ HR.out).names HL.out.hn1 HL.out.hn2 HR.out.hn1 HR.out.hn2 HSL.out.len HSR.out.len); clear HXs HMR; obtain ⟨nm, hnm⟩ : ∃ x, namesM b.names l.names r.names = x := ⟨_, rfl⟩; obtain ⟨nc, hnc⟩ : ∃ x, namesC b.names l.names r.names = x := ⟨_, rfl⟩; have HNM := lH hnm; have HNC := lH hnc
 replace HCS : Hid (Calls Tryz.prog 128 #[.slice anb b.names.length cnb, .slice anl l.names.length cnl, .slice anr r.names.length cnr] W5 fun e w' => ((nc = true ∧ e = .returned (.tuple #[.slice none 0 0, .int .i64 17])) ∨ (nc = false ∧ ∃ a c, e = .returned (.tuple #[.slice a nm.length c, .int .i64 0]) ∧ Reads w' (n4 :: n3 :: X) (strsT nm) (.slice a nm.length c) ∧ nm.length ≤ c ∧ c ≤ 9223372036854775807)) ∧ Bw W5 w') := by
  refine HCS.out.mono ?_; rintro e w' ⟨h⟩; rwa [hnm, hnc] at h
 clear hnm hnc; go_wp2_with (fail)
 refine HCS.out.mono ?_; rintro e W6 ⟨hor, hb6⟩; have HD6 := lH (HD5.out.below hb6); have HW6 : Hid (Bw W0 W6) := HW5.out.trans (hb6.mono HW5.out.size); have HWA := lH (hA.trans (HW6.out.mono hA.size)); clear b3 l3 r3 bl ll rl hb6 HD5 HW5 HCS
 rcases hor with ⟨rfl, rfl⟩ | ⟨rfl, an, cn, rfl, hnr, hnl1, hnl2⟩
 ·have HER : Hid (bothErr b l r = 17) := by show _ = _; unfold bothErr; rw [HNC.out, if_pos rfl]
  obtain ⟨o0, o1, o2, o3, o4, o5, o6, o7, o8, o9, o10, ol⟩ := cells11 (Go.out.below HW6.out); obtain ⟨fo0, fo1, fo2, fo3, fo4, fo5, fo6, fo7, fo8, fo9, fo10⟩ := frozen11 (Go.out.below HW6.out); go_wp2; clear o0 o1 o2 o3 o4 o5 o6 o7 o8 o9 o10 fo0 fo1 fo2 fo3 fo4 fo5 fo6 fo7 fo8 fo9 fo10 ol; obtain ⟨HC9, HM9⟩ := CBox.putZ (Go.out.below HW6.out); generalize World.setCell _ ⟨n3, 10, none⟩ _ = WZ at *; obtain ⟨r0, r1, r2, r3, r4, r5, r6, r7, r8, r9, r10, -⟩ := cells11 HC9
  refine bodyPost_ret (by simp [results, Tryz.results86, go_sem, r0, r1, r2, r3, r4, r5, r6, r7, r8, r9, r10]; try rfl) rfl ?_; have hdZ : Bw w WZ := HWA.out.trans (HM9.upto HWA.out.size (by intro k hk; simp at hk; omega)); exact MergedD.bad HER.out (by decide) hdZ
 ·have HNR := lH hnr
  clear hnr; have d3 := HD6.out.cell (i := 3) (v := .slice none 0 0) rfl; have e3 := HD6.out.frozen 3; have dl := HD6.out.lt; go_upto_region 12 with (fail)
  clear d3 e3 dl; have HD8 : Hid (CBox (W6.setCell ⟨n4, 3, none⟩ (.slice an nm.length cn)) n4 46 #[.int .i64 l.id, .int .i64 km, .bool (truthB b.pub l.pub r.pub), .slice an nm.length cn, .bool (truthB b.doubt l.doubt r.doubt || kc), .int .i64 0, .string ⟨#[]⟩, .string ⟨#[]⟩, .int .i64 0, .int .i64 0, .slice none 0 0]) := HD6.out.set 3 _; have HM8 : Hid (Mod [n4] W6 (W6.setCell ⟨n4, 3, none⟩ (.slice an nm.length cn))) := (Mod.refl [n4] W6).setCell (p := ⟨n4, 3, none⟩) (by simp) _
  have HW8 : Hid (Bw W0 (W6.setCell ⟨n4, 3, none⟩ (.slice an nm.length cn))) := HW6.out.trans (HM8.out.upto HW6.out.size (by intro q hq; simp at hq; have := HN4.out.1; omega)); have HNR8 : Hid (Reads (W6.setCell ⟨n4, 3, none⟩ (.slice an nm.length cn)) (n4 :: n3 :: X) (strsT nm) (.slice an nm.length cn)) := HNR.out.mod (HM8.out.mono inC); generalize World.setCell _ ⟨n4, 3, none⟩ _ = W8 at *; clear HM8 HNR HD6 HW6 HWA; obtain ⟨-, -, -, -, -, b5, b6, b7, b8, b9, b10, bl⟩ := cells11 (Gb.out.below HW8.out); obtain ⟨-, -, -, -, -, l5, l6, l7, l8, l9, l10, ll⟩ := cells11 (Gl.out.below HW8.out)
  obtain ⟨-, -, -, -, -, r5, r6, r7, r8, r9, r10, rl⟩ := cells11 (Gr.out.below HW8.out); have HWA := lH (hA.trans (HW8.out.mono hA.size)); have HMR : Hid (∀ (d : ODecl) (an : Option Addr) (cn : Nat) (sa : Option Addr) (cs : Nat), DecX w X d an cn sa cs → DecX W8 (n4 :: n3 :: X) d an cn sa cs) := fun d an cn sa cs h => ((h.more (k := n3) (by omega)).more (k := n4) (by have := HN4.out.2; omega)).below HWA.out
  have HXs : ∀ k, k ∈ n4 :: n3 :: X → k < W8.heap.size := fun k hk => by
   have h1 := HD8.out.lt
   rcases List.mem_cons.1 hk with rfl | hk
   ·exact h1
   ·rcases List.mem_cons.1 hk with rfl | hk
    ·have := HN4.out.2; omega
    ·have := HX.out k hk; have := HWA.out.size; omega
  have HXM := lH (r32Merge_any b.body l.body r.body asb asl asr csb csl csr (n4 :: n3 :: X) W8 HXs (HMR.out _ _ _ _ _ HB.out).body (HMR.out _ _ _ _ _ HL.out).body (HMR.out _ _ _ _ _ HR.out).body HSB.out.body HSL.out.body HSR.out.body nb nl nr); clear HXs HMR; unfold exV at HXM; go_wp2_with (fail)
  refine HXM.out.mono ?_; rintro e W9 ⟨⟨xa, xc, rfl, hx, hb9⟩⟩; clear HXM b5 b6 b7 b8 b9 b10 l5 l6 l7 l8 l9 l10 r5 r6 r7 r8 r9 r10 bl ll rl; unfold exV; generalize hO : mergeXOut b.body l.body r.body = O at *; generalize hQ : mergeXErr b.body l.body r.body = q at *; have HOO := lH hO; have HQQ := lH hQ; clear hO hQ; have HBE : Hid (bothErr b l r = q) := by show _ = _; unfold bothErr; rw [HNC.out, if_neg Bool.false_ne_true]; exact HQQ.out
  have HDA := lH (HD8.out.below hb9); have HWB : Hid (Bw W0 W9) := HW8.out.trans (hb9.mono HW8.out.size); have HXI := lH hx; have HNS := lH (HNR8.out.below hb9); clear hx hb9 HD8 HW8 HWA HNR8; obtain ⟨-, -, -, -, -, d5, d6, d7, d8, d9, d10, dl⟩ := cells11 HDA.out; obtain ⟨-, -, -, -, -, fd5, fd6, fd7, fd8, fd9, fd10⟩ := frozen11 HDA.out; go_upto_region 13 with (fail)
  clear dl d5 fd5 d6 fd6 d7 fd7 d8 fd8 d9 fd9 d10 fd10; have HDB0 : Hid (CBox (W9.setCell ⟨n4, 5, none⟩ (.int .i64 O.kind)) n4 46 #[.int .i64 l.id, .int .i64 km, .bool (truthB b.pub l.pub r.pub), .slice an nm.length cn, .bool (truthB b.doubt l.doubt r.doubt || kc), .int .i64 O.kind, .string ⟨#[]⟩, .string ⟨#[]⟩, .int .i64 0, .int .i64 0, .slice none 0 0]) := HDA.out.set 5 _
  have HDB1 : Hid (CBox ((W9.setCell ⟨n4, 5, none⟩ (.int .i64 O.kind)).setCell ⟨n4, 6, none⟩ (.string O.name)) n4 46 #[.int .i64 l.id, .int .i64 km, .bool (truthB b.pub l.pub r.pub), .slice an nm.length cn, .bool (truthB b.doubt l.doubt r.doubt || kc), .int .i64 O.kind, .string O.name, .string ⟨#[]⟩, .int .i64 0, .int .i64 0, .slice none 0 0]) := HDB0.out.set 6 _
  have HDB2 : Hid (CBox (((W9.setCell ⟨n4, 5, none⟩ (.int .i64 O.kind)).setCell ⟨n4, 6, none⟩ (.string O.name)).setCell ⟨n4, 7, none⟩ (.string O.more)) n4 46 #[.int .i64 l.id, .int .i64 km, .bool (truthB b.pub l.pub r.pub), .slice an nm.length cn, .bool (truthB b.doubt l.doubt r.doubt || kc), .int .i64 O.kind, .string O.name, .string O.more, .int .i64 0, .int .i64 0, .slice none 0 0]) := HDB1.out.set 7 _
  have HDB3 : Hid (CBox ((((W9.setCell ⟨n4, 5, none⟩ (.int .i64 O.kind)).setCell ⟨n4, 6, none⟩ (.string O.name)).setCell ⟨n4, 7, none⟩ (.string O.more)).setCell ⟨n4, 8, none⟩ (.int .i64 O.num)) n4 46 #[.int .i64 l.id, .int .i64 km, .bool (truthB b.pub l.pub r.pub), .slice an nm.length cn, .bool (truthB b.doubt l.doubt r.doubt || kc), .int .i64 O.kind, .string O.name, .string O.more, .int .i64 O.num, .int .i64 0, .slice none 0 0]) := HDB2.out.set 8 _
  have HDB4 : Hid (CBox (((((W9.setCell ⟨n4, 5, none⟩ (.int .i64 O.kind)).setCell ⟨n4, 6, none⟩ (.string O.name)).setCell ⟨n4, 7, none⟩ (.string O.more)).setCell ⟨n4, 8, none⟩ (.int .i64 O.num)).setCell ⟨n4, 9, none⟩ (.int .i64 O.den)) n4 46 #[.int .i64 l.id, .int .i64 km, .bool (truthB b.pub l.pub r.pub), .slice an nm.length cn, .bool (truthB b.doubt l.doubt r.doubt || kc), .int .i64 O.kind, .string O.name, .string O.more, .int .i64 O.num, .int .i64 O.den, .slice none 0 0]) := HDB3.out.set 9 _
  have HDB5 : Hid (CBox ((((((W9.setCell ⟨n4, 5, none⟩ (.int .i64 O.kind)).setCell ⟨n4, 6, none⟩ (.string O.name)).setCell ⟨n4, 7, none⟩ (.string O.more)).setCell ⟨n4, 8, none⟩ (.int .i64 O.num)).setCell ⟨n4, 9, none⟩ (.int .i64 O.den)).setCell ⟨n4, 10, none⟩ (.slice xa O.subs.length xc)) n4 46 #[.int .i64 l.id, .int .i64 km, .bool (truthB b.pub l.pub r.pub), .slice an nm.length cn, .bool (truthB b.doubt l.doubt r.doubt || kc), .int .i64 O.kind, .string O.name, .string O.more, .int .i64 O.num, .int .i64 O.den, .slice xa O.subs.length xc]) := HDB4.out.set 10 _
  have HM := (((((((Mod.refl [n4] W9).setCell (p := ⟨n4, 5, none⟩) (by simp) (.int .i64 O.kind)).setCell (p := ⟨n4, 6, none⟩) (by simp) (.string O.name)).setCell (p := ⟨n4, 7, none⟩) (by simp) (.string O.more)).setCell (p := ⟨n4, 8, none⟩) (by simp) (.int .i64 O.num)).setCell (p := ⟨n4, 9, none⟩) (by simp) (.int .i64 O.den)).setCell (p := ⟨n4, 10, none⟩) (by simp) (.slice xa O.subs.length xc)); have HD11 := HDB5
  have HW11 : Hid (Bw W0 ((((((W9.setCell ⟨n4, 5, none⟩ (.int .i64 O.kind)).setCell ⟨n4, 6, none⟩ (.string O.name)).setCell ⟨n4, 7, none⟩ (.string O.more)).setCell ⟨n4, 8, none⟩ (.int .i64 O.num)).setCell ⟨n4, 9, none⟩ (.int .i64 O.den)).setCell ⟨n4, 10, none⟩ (.slice xa O.subs.length xc))) := HWB.out.trans (HM.upto HWB.out.size (by intro q hq; simp at hq; have := HN4.out.1; omega))
  have HX11 : Hid (ExIn ((((((W9.setCell ⟨n4, 5, none⟩ (.int .i64 O.kind)).setCell ⟨n4, 6, none⟩ (.string O.name)).setCell ⟨n4, 7, none⟩ (.string O.more)).setCell ⟨n4, 8, none⟩ (.int .i64 O.num)).setCell ⟨n4, 9, none⟩ (.int .i64 O.den)).setCell ⟨n4, 10, none⟩ (.slice xa O.subs.length xc)) (n4 :: n3 :: X) O xa xc) := HXI.out.mod (HM.mono inC)
  have HN11 : Hid (Reads ((((((W9.setCell ⟨n4, 5, none⟩ (.int .i64 O.kind)).setCell ⟨n4, 6, none⟩ (.string O.name)).setCell ⟨n4, 7, none⟩ (.string O.more)).setCell ⟨n4, 8, none⟩ (.int .i64 O.num)).setCell ⟨n4, 9, none⟩ (.int .i64 O.den)).setCell ⟨n4, 10, none⟩ (.slice xa O.subs.length xc)) (n4 :: n3 :: X) (strsT nm) (.slice an nm.length cn)) := HNS.out.mod (HM.mono inC); generalize World.setCell _ ⟨n4, 10, none⟩ _ = W11 at *; clear HM HDB0 HDB1 HDB2 HDB3 HDB4 HDB5 HDA HWB HXI HNS; have HWA := lH (hA.trans (HW11.out.mono hA.size))
  by_cases hq : q = 0
  ·have q3 : (q != 0) = false := by rw [hq]; rfl
   have HQ0 := lH hq; clear hq; obtain ⟨d0, d1, d2, d3, d4, d5, d6, d7, d8, d9, d10, dl⟩ := cells11 HD11.out; obtain ⟨o0, o1, o2, o3, o4, o5, o6, o7, o8, o9, o10, ol⟩ := cells11 (Go.out.below HW11.out); obtain ⟨fo0, fo1, fo2, fo3, fo4, fo5, fo6, fo7, fo8, fo9, fo10⟩ := frozen11 (Go.out.below HW11.out); go_wp2; clear o0 o1 o2 o3 o4 o5 o6 o7 o8 o9 o10 fo0 fo1 fo2 fo3 fo4 fo5 fo6 fo7 fo8 fo9 fo10 ol d0 d1 d2 d3 d4 d5 d6 d7 d8 d9 d10 dl
   obtain ⟨HC9, HM9⟩ := CBox.eleven (Go.out.below HW11.out) (.int .i64 l.id) (.int .i64 km) (.bool (truthB b.pub l.pub r.pub)) (.slice an nm.length cn) (.bool (truthB b.doubt l.doubt r.doubt || kc)) (.int .i64 O.kind) (.string O.name) (.string O.more) (.int .i64 O.num) (.int .i64 O.den) (.slice xa O.subs.length xc); generalize World.setCell _ ⟨n3, 10, none⟩ _ = WZ at *; obtain ⟨r0, r1, r2, r3, r4, r5, r6, r7, r8, r9, r10, -⟩ := cells11 HC9; refine bodyPost_ret (by simp [results, Tryz.results86, go_sem, r0, r1, r2, r3, r4, r5, r6, r7, r8, r9, r10]; try rfl) rfl ?_
   have hdZ : Bw w WZ := HWA.out.trans (HM9.upto HWA.out.size (by intro k hk; simp at hk; omega)); have h3 : ∀ k, k ∈ [n3] → k ∈ n4 :: n3 :: X := fun k hk => by rw [List.mem_singleton.1 hk]; exact List.mem_cons_of_mem _ (List.mem_cons_self ..)
   have hf : ∀ k, k ∈ X → k ∈ n4 :: n3 :: X := fun k hk => List.mem_cons_of_mem _ (List.mem_cons_of_mem _ hk); have hxZ := (HX11.out.mod (HM9.mono h3)).fewer hf; have hnZ := (HN11.out.mod (HM9.mono h3)).fewer hf; have h0 : bothErr b l r = 0 := by rw [HBE.out]; exact HQ0.out
   have hOx : mergeX b.body l.body r.body = O := by have h1 := HOO.out; unfold mergeXOut at h1; rw [HQQ.out, if_pos HQ0.out] at h1; exact h1
   have hout : bothOut b l r = ⟨l.id, km, truthB b.pub l.pub r.pub, nm, truthB b.doubt l.doubt r.doubt || kc, O⟩ := by unfold bothOut; rw [if_pos h0]; unfold bothM; rw [HKM.out, HKC.out, HNM.out, hOx]
   refine ⟨an, cn, xa, xc, ?_, ?_, hdZ⟩
   ·rw [hout, h0]; rfl
   ·rw [hout]; exact ⟨hnZ, hxZ.subs, hnl1, hnl2, hxZ.h1, hxZ.h2⟩
  ·have q3 : (q != 0) = true := by simp [hq]
   have HQ0 := lH hq; clear hq; obtain ⟨o0, o1, o2, o3, o4, o5, o6, o7, o8, o9, o10, ol⟩ := cells11 (Go.out.below HW11.out); obtain ⟨fo0, fo1, fo2, fo3, fo4, fo5, fo6, fo7, fo8, fo9, fo10⟩ := frozen11 (Go.out.below HW11.out); go_wp2; clear o0 o1 o2 o3 o4 o5 o6 o7 o8 o9 o10 fo0 fo1 fo2 fo3 fo4 fo5 fo6 fo7 fo8 fo9 fo10 ol; obtain ⟨HC9, HM9⟩ := CBox.putZ (Go.out.below HW11.out); generalize World.setCell _ ⟨n3, 10, none⟩ _ = WZ at *; obtain ⟨r0, r1, r2, r3, r4, r5, r6, r7, r8, r9, r10, -⟩ := cells11 HC9
   refine bodyPost_ret (by simp [results, Tryz.results86, go_sem, r0, r1, r2, r3, r4, r5, r6, r7, r8, r9, r10]; try rfl) rfl ?_; have hdZ : Bw w WZ := HWA.out.trans (HM9.upto HWA.out.size (by intro k hk; simp at hk; omega)); exact MergedD.bad HBE.out HQ0.out hdZ
end Go.Proofs.YtlgnedahnaojlaaGreatDoor

