/- The reference's names and one of chapter 33. -/
import Derived.Test.YtlgnedahnaojlaaGreatDoorUYB
import Derived.Test.YtlgnedahnaojlaaGreatDoorUGC
namespace Go.Proofs.YtlgnedahnaojlaaGreatDoor
open Go.RowKit Go.Shelf
attribute [local go_sem] Oper.semAt_some

structure NamedS (b l r : List ByteArray) (X : List Nat) (w : World) (e : Ending) (w' : World) : Prop where
  of ::
  out : ((namesC b l r = true ∧ e = .returned (.tuple #[.slice none 0 0, .int .i64 17])) ∨ (namesC b l r = false ∧ ∃ a c, e = .returned (.tuple #[.slice a (namesM b l r).length c, .int .i64 0]) ∧ Reads w' X (strsT (namesM b l r)) (.slice a (namesM b l r).length c) ∧ (namesM b l r).length ≤ c ∧ c ≤ 9223372036854775807)) ∧ Below w.heap.size w w'
theorem NamedS.good {b l r m : List ByteArray} {X : List Nat} {w w' : World} {a : Option Addr} {c : Nat} (h : namesM b l r = m ∧ namesC b l r = false) (hr : Reads w' X (strsT m) (.slice a m.length c)) (h1 : m.length ≤ c) (h2 : c ≤ 9223372036854775807) (hb : Bw w w') : NamedS b l r X w (.returned (.tuple #[.slice a m.length c, .int .i64 0])) w' := by
 obtain ⟨rfl, hc⟩ := h; exact ⟨.inr ⟨hc, a, c, rfl, hr, h1, h2⟩, hb⟩
theorem NamedS.bad {b l r : List ByteArray} {X : List Nat} {w w' : World} (h : namesC b l r = true) (hb : Bw w w') : NamedS b l r X w (.returned (.tuple #[.slice none 0 0, .int .i64 17])) w' := ⟨.inl ⟨h, rfl⟩, hb⟩
theorem names_left {b l r : List ByteArray} (h : sameSs l r = true ∨ sameSs r b = true) : namesM b l r = l ∧ namesC b l r = false := by
 unfold namesM namesC
 rcases h with h | h <;> simp [h]
theorem names_right {b l r : List ByteArray} (h1 : sameSs l r = false) (h2 : sameSs r b = false) (h3 : sameSs l b = true) : namesM b l r = r ∧ namesC b l r = false := by
 unfold namesM namesC; simp [h1, h2, h3]
theorem names_three {b l r : List ByteArray} (h1 : sameSs l r = false) (h2 : sameSs r b = false) (h3 : sameSs l b = false) : namesM b l r = [sAt l 0, sAt b 0, sAt r 0] ∧ namesC b l r = (b.length != 1 || l.length != 1 || r.length != 1) := by
 unfold namesM namesC; simp [h1, h2, h3]
set_option maxRecDepth 100000 in
set_option maxHeartbeats 4000000 in
theorem r33names_any (b l r : List ByteArray) (ba la ra : Option Addr) (bc lc rc : Nat) (X : List Nat) (w : World) (hX : ∀ k, k ∈ X → k < w.heap.size) (hb : Reads w X (strsT b) (.slice ba b.length bc)) (hl : Reads w X (strsT l) (.slice la l.length lc)) (hr : Reads w X (strsT r) (.slice ra r.length rc))
  (hl1 : l.length ≤ lc) (hl2 : lc ≤ 9223372036854775807) (hr1 : r.length ≤ rc) (hr2 : rc ≤ 9223372036854775807) (hll : l.length ≤ 1000000) (hrl : r.length ≤ 1000000) :
  Calls Tryz.prog 128 #[.slice ba b.length bc, .slice la l.length lc, .slice ra r.length rc] w (NamedS b l r X w) := by
 have HX := lH hX; have HBR := lH hb; have HLR := lH hl; have HRR := lH hr; have H1 := lH (rSameStrings_any l r la ra lc rc w (reads_strs.1 hl).1 (reads_strs.1 hr).1 hll); have H2 := lH (fun W (h : Bw w W) => rSameStrings_any r b ra ba rc bc W (reads_strs.1 (hr.below h)).1 (reads_strs.1 (hb.below h)).1 hrl); have H3 := lH (fun W (h : Bw w W) => rSameStrings_any l b la ba lc bc W (reads_strs.1 (hl.below h)).1 (reads_strs.1 (hb.below h)).1 hll); clear hX hb hl hr
 cases h1 : sameSs l r with
 | true =>
  have HE := lH (names_left (b := b) (.inl h1)); rw [h1] at H1; clear h1
  go_enter Tryz.func128, Tryz.ntmps128
  go_wp2_with (fail)
  refine H1.out.mono ?_; rintro e w1 ⟨rfl, hb1⟩; go_wp2; go_returns; exact NamedS.good HE.out (HLR.out.below hb1) hl1 hl2 hb1
 | false =>
  rw [h1] at H1
  cases h2 : sameSs r b with
  | true =>
   have HE := lH (names_left (l := l) (.inr h2)); rw [h2] at H2; clear h1 h2
   go_enter Tryz.func128, Tryz.ntmps128
   go_wp2_with (fail)
   refine H1.out.mono ?_; rintro e w1 ⟨rfl, hb1⟩; go_wp2_with (fail)
   refine (H2.out _ hb1).mono ?_; rintro e w2 ⟨rfl, hb2⟩; have hB2 := qtrans hb1 hb2; go_wp2; go_returns; exact NamedS.good HE.out (HLR.out.below hB2) hl1 hl2 hB2
  | false =>
   rw [h2] at H2
   cases h3 : sameSs l b with
   | true =>
    have HE := lH (names_right h1 h2 h3); rw [h3] at H3; clear h1 h2 h3
    go_enter Tryz.func128, Tryz.ntmps128
    go_wp2_with (fail)
    refine H1.out.mono ?_; rintro e w1 ⟨rfl, hb1⟩; go_wp2_with (fail)
    refine (H2.out _ hb1).mono ?_; rintro e w2 ⟨rfl, hb2⟩; have hB2 := qtrans hb1 hb2; go_wp2_with (fail)
    refine (H3.out _ hB2).mono ?_; rintro e w3 ⟨rfl, hb3⟩; have hB3 := qtrans hB2 hb3; go_wp2; go_returns; exact NamedS.good HE.out (HRR.out.below hB3) hr1 hr2 hB3
   | false =>
    obtain ⟨en, ec⟩ := names_three h1 h2 h3; have HN9 := lH en; have HNC := lH ec; rw [h3] at H3; clear h1 h2 h3 en ec
    go_enter Tryz.func128, Tryz.ntmps128
    go_wp2_with (fail)
    refine H1.out.mono ?_; rintro e w1 ⟨rfl, hb1⟩; go_wp2_with (fail)
    refine (H2.out _ hb1).mono ?_; rintro e w2 ⟨rfl, hb2⟩; have hB2 := qtrans hb1 hb2; go_wp2_with (fail)
    refine (H3.out _ hB2).mono ?_; rintro e W6 ⟨rfl, hb3⟩; have HWA := lH (qtrans hB2 hb3); clear hb1 hb2 hb3 hB2 H1 H2 H3
    by_cases eb : b.length = 1
    ·have tb : ((b.length : Int) != 1) = false := by rw [eb]; rfl
     by_cases el : l.length = 1
     ·have tl : ((l.length : Int) != 1) = false := by rw [el]; rfl
      by_cases er : r.length = 1
      ·have tr : ((r.length : Int) != 1) = false := by rw [er]; rfl
       obtain ⟨sb, hsb⟩ := List.length_eq_one_iff.1 eb; obtain ⟨sl, hsl⟩ := List.length_eq_one_iff.1 el; obtain ⟨sr, hsr⟩ := List.length_eq_one_iff.1 er; have HNC2 : Hid (namesC b l r = false) := by show _ = _; rw [HNC.out, eb, el, er]; rfl
       have HN3 : Hid (namesM b l r = [sl, sb, sr]) := by show _ = _; rw [HN9.out, hsb, hsl, hsr]; rfl
       obtain ⟨bb, bo, rfl, hb1, hc1⟩ := one_name (HBR.out.below HWA.out) hsb; obtain ⟨lb, lo, rfl, hb2, hc2⟩ := one_name (HLR.out.below HWA.out) hsl; obtain ⟨rb, ro, rfl, hb3, hc3⟩ := one_name (HRR.out.below HWA.out) hsr; have lb0 : (0 : Int) < (b.length : Int) := by omega
       have ll0 : (0 : Int) < (l.length : Int) := by omega
       have lr0 : (0 : Int) < (r.length : Int) := by omega
       have lbn : 0 < b.length := by omega
       have lln : 0 < l.length := by omega
       have lrn : 0 < r.length := by omega
       have hb0 : Bw W6 W6.drew := (Mod.refl [] W6).drew.below; have hS : (fun W : World => W.cell? ⟨bb, bo, none⟩ = some (.string sb) ∧ W.cell? ⟨lb, lo, none⟩ = some (.string sl) ∧ W.cell? ⟨rb, ro, none⟩ = some (.string sr) ∧ bb < W.heap.size ∧ lb < W.heap.size ∧ rb < W.heap.size) W6.drew := ⟨(hb0.cell (p := ⟨bb, _, none⟩) hb1).trans hc1, (hb0.cell (p := ⟨lb, _, none⟩) hb2).trans hc2, (hb0.cell (p := ⟨rb, _, none⟩) hb3).trans hc3, hb1, hb2, hb3⟩; clear eb el er hsb hsl hsr hc1 hc2 hc3; go_upto_region 7 with (fail)
       refine wp_region_noPanic (region_planG (fun W : World => W.cell? ⟨bb, bo, none⟩ = some (.string sb) ∧ W.cell? ⟨lb, lo, none⟩ = some (.string sl) ∧ W.cell? ⟨rb, ro, none⟩ = some (.string sr) ∧ bb < W.heap.size ∧ lb < W.heap.size ∧ rb < W.heap.size) 9 [(true, 0), (true, 1), (true, 2), (true, 3), (true, 4), (true, 5), (true, 6), (true, 7), (true, 8)] mixedK (by kernel_rfl) (fun _ _ _ _ _ h => h) hS ?_); clear hS hb1 hb2 hb3
       iterate 9 (refine planG_take (v := ?_) rfl (by rfl) ?_ ?_; rotate_left; (focus (intro wq hSw; (try dsimp only at hSw); go_simp; (try rw [if_neg (by first | omega | (simp; omega))]); (try with_reducible rfl))); (try simp only [gA, gB, gC, Act.put, gD, gE, gF]))
       refine planG_end ?_; generalize W6.drew = v0 at *; have hal := qtrans hb0 (qalloc v0 (.cells #[.string sl, .string sb, .string sr] 9)); have hge := hb0.size
       have HST : Hid (Strs (v0.alloc (.cells #[.string sl, .string sb, .string sr] 9)) (.slice (some ⟨v0.heap.size, 0, none⟩) 3 3) [sl, sb, sr]) := ⟨rfl, some ⟨v0.heap.size, 0, none⟩, 3, rfl, Nat.le_refl _, by unfold maxLen; omega, fun _ => ⟨v0.heap.size, 0, rfl, by rw [World.size_alloc]; omega, fun j q hj => by rw [Nat.zero_add]; exact (CBox.new v0 9 #[.string sl, .string sb, .string sr]).cell (i := j) (v := q) (by rw [List.getElem?_toArray]; exact hj)⟩⟩; go_wp2; refine NoPanic.normal ?_; go_wp2; go_returns
       exact NamedS.good (m := [sl, sb, sr]) ⟨HN3.out, HNC2.out⟩ (reads_strs.2 ⟨HST.out, fun _ k hk => by cases hk; show v0.heap.size ∉ _; exact fun h => by have := HX.out _ h; have := HWA.out.size; omega⟩) (Nat.le_refl _) (by decide) (HWA.out.trans (hal.mono HWA.out.size))
      ·have tr : ((r.length : Int) != 1) = true := by simp; omega
       have HER : Hid (namesC b l r = true) := by show _ = _; rw [HNC.out]; first | (simp [eb]; done) | (simp [eb, el]; done) | (simp [eb, el, er]; done)
       clear eb; go_wp2; go_returns; exact NamedS.bad HER.out HWA.out
     ·have tl : ((l.length : Int) != 1) = true := by simp; omega
      have HER : Hid (namesC b l r = true) := by show _ = _; rw [HNC.out]; first | (simp [eb]; done) | (simp [eb, el]; done) | (simp [eb, el, er]; done)
      clear eb; go_wp2; go_returns; exact NamedS.bad HER.out HWA.out
    ·have tb : ((b.length : Int) != 1) = true := by simp; omega
     have HER : Hid (namesC b l r = true) := by show _ = _; rw [HNC.out]; first | (simp [eb]; done) | (simp [eb, el]; done) | (simp [eb, el, er]; done)
     clear eb; go_wp2; go_returns; exact NamedS.bad HER.out HWA.out
def oneO (old : Bool) (b d : ODecl) : Option ODecl := if old then (if sameD b d then none else some (doubtD d)) else some d
set_option maxRecDepth 100000 in
set_option maxHeartbeats 4000000 in
theorem r33one_any (b d : ODecl) (old : Bool) (anb : Option Addr) (cnb : Nat) (asb : Option Addr) (csb : Nat) (and : Option Addr) (cnd : Nat) (asd : Option Addr) (csd : Nat) (X : List Nat) (w : World) (hX : ∀ k, k ∈ X → k < w.heap.size) (hb : DecX w X b anb cnb asb csb) (hd : DecX w X d and cnd asd csd) (hsb : b.names.length ≤ 1000000) (hnb : nodesN b.body ≤ 1000000) :
  Calls Tryz.prog 87 #[declV b anb cnb asb csb, .bool old, declV d and cnd asd csd] w (FoundD (oneO old b d) X w) := by
 obtain ⟨gb, gd, gr, hA, hs3⟩ := three_boxes w 46 (dA b anb cnb asb csb) (dA d and cnd asd csd) dZ; have HX := lH hX; have HBO := lH hb; have HDO := lH hd; clear hX hb hd; unfold declV
 go_enter Tryz.func87, Tryz.ntmps87
 go_upto_region 1 with (fail)
 generalize ((w.alloc (.cells (dA b anb cnb asb csb) 46)).alloc (.cells (dA d and cnd asd csd) 46)).alloc (.cells dZ 46) = W0 at *; clear hs3; obtain ⟨R, hR⟩ : ∃ R, w.heap.size + 1 + 1 = R := ⟨_, rfl⟩; rw [hR] at gr ⊢; obtain ⟨M, hM⟩ : ∃ M, w.heap.size + 1 = M := ⟨_, rfl⟩; rw [hM] at gd ⊢; have HRM : Hid (w.heap.size < M ∧ M < R) := ⟨by omega, by omega⟩; clear hR hM; obtain ⟨B, hB⟩ : ∃ B, w.heap.size = B := ⟨_, rfl⟩; rw [hB] at gb ⊢; have HW0 := lH hA; have HB0 := lH gb; have HD0 := lH gd; have HR0 := lH gr
 have HDX0 : Hid (DecX W0 (M :: R :: X) d and cnd asd csd) := ((HDO.out.more (k := R) (by have := HRM.out; omega)).more (k := M) (by have := HRM.out; omega)).below HW0.out; have HBX0 : Hid (DecX W0 X b anb cnb asb csb) := HBO.out.below HW0.out; clear hA gb gd gr hB HBO HDO
 cases old with
 | false =>
  go_upto_region 2 with (fail)
  obtain ⟨n0, n1, n2, n3, n4, n5, n6, n7, n8, n9, n10, nl⟩ := cells11 HD0.out; obtain ⟨o0, o1, o2, o3, o4, o5, o6, o7, o8, o9, o10, ol⟩ := cells11 HR0.out; obtain ⟨fo0, fo1, fo2, fo3, fo4, fo5, fo6, fo7, fo8, fo9, fo10⟩ := frozen11 HR0.out; go_wp2; clear o0 o1 o2 o3 o4 o5 o6 o7 o8 o9 o10 fo0 fo1 fo2 fo3 fo4 fo5 fo6 fo7 fo8 fo9 fo10 ol n0 n1 n2 n3 n4 n5 n6 n7 n8 n9 n10 nl; obtain ⟨HC9, HM9⟩ := CBox.putD (HR0.out) d and cnd asd csd; generalize World.setCell _ ⟨R, 10, none⟩ _ = WZ at *; obtain ⟨r0, r1, r2, r3, r4, r5, r6, r7, r8, r9, r10, -⟩ := cells11 HC9
  refine bodyPost_ret (by simp [results, Tryz.results87, go_sem, r0, r1, r2, r3, r4, r5, r6, r7, r8, r9, r10]; try rfl) rfl ?_; clear r0 r1 r2 r3 r4 r5 r6 r7 r8 r9 r10; have hdZ : Bw w WZ := HW0.out.trans (HM9.upto HW0.out.size (by intro k hk; have := HRM.out; simp at hk; omega)); exact FoundD.yes (d := d) rfl ((HDX0.out.mod (HM9.mono (fun k hk => by rw [List.mem_singleton.1 hk]; simp))).fewer (fun k hk => by simp [hk])) hdZ
 | true =>
  have HEQ := lH (rSameDecl_any b d anb cnb asb csb and cnd asd csd W0 HBX0.out.free HDX0.out.free hsb hnb); unfold declV at HEQ; obtain ⟨q, hq⟩ : ∃ q, sameD b d = q := ⟨_, rfl⟩; rw [hq] at HEQ; have HQ : Hid (∀ u, u = q → oneO true b d = bif u then none else some (doubtD d)) := fun u hu => by show (if true = true then (if sameD b d = true then none else some (doubtD d)) else some d) = _; rw [if_pos rfl, hq, hu]; cases q <;> rfl
  clear hq; obtain ⟨b0, b1, b2, b3, b4, b5, b6, b7, b8, b9, b10, bl⟩ := cells11 HB0.out; obtain ⟨n0, n1, n2, n3, n4, n5, n6, n7, n8, n9, n10, nl⟩ := cells11 HD0.out; go_wp2_with (fail)
  refine HEQ.out.mono ?_; rintro e W1 ⟨rfl, hb1⟩; have HD1 := lH (HD0.out.below hb1); have HR1 := lH (HR0.out.below hb1); have HW1 := lH (HW0.out.trans (hb1.mono HW0.out.size)); have HDX1 := lH (HDX0.out.below hb1); clear hb1 HEQ HB0 HD0 HR0 HW0 HDX0 HBX0 b0 b1 b2 b3 b4 b5 b6 b7 b8 b9 b10 bl n0 n1 n2 n3 n4 n5 n6 n7 n8 n9 n10 nl
  cases q with
  | true =>
   obtain ⟨o0, o1, o2, o3, o4, o5, o6, o7, o8, o9, o10, ol⟩ := cells11 HR1.out; obtain ⟨fo0, fo1, fo2, fo3, fo4, fo5, fo6, fo7, fo8, fo9, fo10⟩ := frozen11 HR1.out; go_wp2; clear o0 o1 o2 o3 o4 o5 o6 o7 o8 o9 o10 fo0 fo1 fo2 fo3 fo4 fo5 fo6 fo7 fo8 fo9 fo10 ol ; obtain ⟨HC9, HM9⟩ := CBox.putZ (HR1.out); generalize World.setCell _ ⟨R, 10, none⟩ _ = WZ at *; obtain ⟨r0, r1, r2, r3, r4, r5, r6, r7, r8, r9, r10, -⟩ := cells11 HC9; refine bodyPost_ret (by simp [results, Tryz.results87, go_sem, r0, r1, r2, r3, r4, r5, r6, r7, r8, r9, r10]; try rfl) rfl ?_
   clear r0 r1 r2 r3 r4 r5 r6 r7 r8 r9 r10; have hdZ : Bw w WZ := HW1.out.trans (HM9.upto HW1.out.size (by intro k hk; have := HRM.out; simp at hk; omega)); exact FoundD.no (HQ.out _ rfl) hdZ
  | false =>
   have n4 := HD1.out.cell (i := 4) (v := .bool d.doubt) rfl; have f4 := HD1.out.frozen 4; have nl := HD1.out.lt; go_upto_region 6 with (fail)
   clear n4 f4 nl; have HD2 : Hid (CBox (W1.setCell ⟨M, 4, none⟩ (.bool true)) M 46 #[.int .i64 d.id, .int .i64 d.kind, .bool d.pub, .slice and d.names.length cnd, .bool true, .int .i64 d.body.kind, .string d.body.name, .string d.body.more, .int .i64 d.body.num, .int .i64 d.body.den, .slice asd d.body.subs.length csd]) := HD1.out.set 4 _; have HM2 : Mod [M] W1 (W1.setCell ⟨M, 4, none⟩ (.bool true)) := (Mod.refl [M] W1).setCell (p := ⟨M, 4, none⟩) (by simp) _; have HR2 := lH (HR1.out.mod HM2 (by have := HRM.out; simp; omega))
   have HW2 : Hid (Bw w (W1.setCell ⟨M, 4, none⟩ (.bool true))) := HW1.out.trans (HM2.upto HW1.out.size (by intro k hk; have := HRM.out; simp at hk; omega))
   have HDX2 : Hid (DecX (W1.setCell ⟨M, 4, none⟩ (.bool true)) (M :: R :: X) (doubtD d) and cnd asd csd) := by
    have h := HDX1.out.mod (HM2.mono inC); exact ⟨h.names, h.subs, h.hn1, h.hn2, h.hs1, h.hs2⟩
   generalize World.setCell _ ⟨M, 4, none⟩ _ = W2 at *; clear HM2 HD1 HR1 HW1 HDX1; obtain ⟨n0, n1, n2, n3, n4, n5, n6, n7, n8, n9, n10, nl⟩ := cells11 HD2.out; obtain ⟨o0, o1, o2, o3, o4, o5, o6, o7, o8, o9, o10, ol⟩ := cells11 HR2.out; obtain ⟨fo0, fo1, fo2, fo3, fo4, fo5, fo6, fo7, fo8, fo9, fo10⟩ := frozen11 HR2.out; go_wp2; clear o0 o1 o2 o3 o4 o5 o6 o7 o8 o9 o10 fo0 fo1 fo2 fo3 fo4 fo5 fo6 fo7 fo8 fo9 fo10 ol n0 n1 n2 n3 n4 n5 n6 n7 n8 n9 n10 nl
   obtain ⟨HC9, HM9⟩ := CBox.eleven (HR2.out) (.int .i64 d.id) (.int .i64 d.kind) (.bool d.pub) (.slice and d.names.length cnd) (.bool true) (.int .i64 d.body.kind) (.string d.body.name) (.string d.body.more) (.int .i64 d.body.num) (.int .i64 d.body.den) (.slice asd d.body.subs.length csd); generalize World.setCell _ ⟨R, 10, none⟩ _ = WZ at *; obtain ⟨r0, r1, r2, r3, r4, r5, r6, r7, r8, r9, r10, -⟩ := cells11 HC9; refine bodyPost_ret (by simp [results, Tryz.results87, go_sem, r0, r1, r2, r3, r4, r5, r6, r7, r8, r9, r10]; try rfl) rfl ?_; clear r0 r1 r2 r3 r4 r5 r6 r7 r8 r9 r10
   have hdZ : Bw w WZ := HW2.out.trans (HM9.upto HW2.out.size (by intro k hk; have := HRM.out; simp at hk; omega)); exact FoundD.yes (d := doubtD d) (HQ.out _ rfl) ((HDX2.out.mod (HM9.mono (fun k hk => by rw [List.mem_singleton.1 hk]; simp))).fewer (fun k hk => by simp [hk])) hdZ
end Go.Proofs.YtlgnedahnaojlaaGreatDoor

