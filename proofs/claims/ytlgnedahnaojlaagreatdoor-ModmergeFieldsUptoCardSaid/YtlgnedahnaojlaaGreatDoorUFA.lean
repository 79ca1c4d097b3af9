/- The closures of the law ModmergeFields: what they write into a declaration. -/
import Derived.Test.YtlgnedahnaojlaaGreatDoorUYH
import Derived.Test.YtlgnedahnaojlaaGreatDoorUNH
import Derived.Test.YtlgnedahnaojlaaGreatDoorUYC
import Derived.Test.YtlgnedahnaojlaaGreatDoorUR7
import Derived.Test.YtlgnedahnaojlaaGreatDoorUG8
import Derived.Test.YtlgnedahnaojlaaGreatDoorUGC
namespace Go.Proofs.YtlgnedahnaojlaaGreatDoor
open Go.RowKit Go.Shelf
attribute [local go_sem] Oper.semAt_some

def putL (g o : Nat) (ps : List (Nat × Value)) (w : World) : World := ps.foldl (fun w p => w.setCell ⟨g, o + p.1, none⟩ p.2) w
def setP (ps : List (Nat × Value)) (c : List Value) : List Value := ps.foldl (fun c p => c.set p.1 p.2) c
theorem putL_mod (g o : Nat) : ∀ (ps : List (Nat × Value)) (w : World), Mod [g] w (putL g o ps w)
 | [], w => Mod.refl _ _
 | p :: ps, w => ((Mod.refl [g] w).setCell (p := ⟨g, o + p.1, none⟩) (by simp) p.2).trans (putL_mod g o ps _)
theorem putL_some (g o : Nat) : ∀ (ps : List (Nat × Value)) {w : World} {q : Addr} {v : Value}, w.cell? q = some v → ∃ v', (putL g o ps w).cell? q = some v'
 | [], _, _, v, h => ⟨v, h⟩
 | p :: ps, w, q, v, h => by
  obtain ⟨v1, h1⟩ := cell?_setCell_some (p := ⟨g, o + p.1, none⟩) (x := p.2) h; exact putL_some g o ps h1
theorem putL_frz (g o : Nat) : ∀ (ps : List (Nat × Value)) (w : World) (a : Addr), (putL g o ps w).frozen? a = w.frozen? a
 | [], _, _ => rfl
 | p :: ps, w, a => (putL_frz g o ps _ a).trans (by rw [World.frozen?_setCell])
theorem owns_setF {w : World} {B : Nat} {e : TypeId} {n cap sz : Nat} {xs : List Value} {g : Nat} (h : w.ownsRow B e sz (.slice (some ⟨g, 0, none⟩) n cap) n xs) (i : Nat) (v : Value) : (w.setCell ⟨g, i, none⟩ v).ownsRow B e sz (.slice (some ⟨g, 0, none⟩) n cap) n (xs.set i v) := by
 obtain ⟨hl, h2⟩ := h
 rcases h2 with ⟨hv, h0⟩ | ⟨g', cap', cur, hv, hg, hh, hn', hc, hs, ht⟩
 ·cases hv
 ·injection hv with e1 e2 e3
  injection e1 with e1
  injection e1 with e1
  subst e1 e3; refine ⟨by rw [List.length_set]; exact hl, .inr ⟨g, cap, cur.setIfInBounds i v, rfl, hg, CBox.set (B := g) hh i v, hn', hc, by rw [Array.size_setIfInBounds]; exact hs, ?_⟩⟩; rw [Array.toList_setIfInBounds, List.take_set, ht]
theorem putL_own {B : Nat} {e : TypeId} {n cap sz g o : Nat} {A C : List Value} (hA : A.length = o) : ∀ (ps : List (Nat × Value)) {cs : List Value} {w : World}, (∀ p ∈ ps, p.1 < cs.length) → w.ownsRow B e sz (.slice (some ⟨g, 0, none⟩) n cap) n (A ++ (cs ++ C)) → (putL g o ps w).ownsRow B e sz (.slice (some ⟨g, 0, none⟩) n cap) n (A ++ (setP ps cs ++ C))
 | [], _, _, _, h => h
 | p :: ps, cs, w, hp, h => by
  have h1 := owns_setF h (o + p.1) p.2; have hp1 := hp p (List.mem_cons_self ..)
  have e1 : (A ++ (cs ++ C)).set (o + p.1) p.2 = A ++ (cs.set p.1 p.2 ++ C) := by
   rw [List.set_append_right _ _ (by omega), show o + p.1 - A.length = p.1 by omega, List.set_append_left _ _ hp1]
  rw [e1] at h1; exact putL_own hA ps (cs := cs.set p.1 p.2) (fun q hq => by rw [List.length_set]; exact hp q (List.mem_cons_of_mem _ hq)) h1
theorem readsL_split {w : World} {X : List Nat} {ds es : List Tree} {xs : List Value} (h : ReadsL w X (ds ++ es) xs) : ∃ a b, xs = a ++ b ∧ ReadsL w X ds a ∧ ReadsL w X es b ∧ a.length = ds.length := by
 have h1 := h.take ds.length; have h2 := h.drop ds.length; rw [List.take_left] at h1; rw [List.drop_left] at h2; exact ⟨_, _, (List.take_append_drop _ _).symm, h1, h2, h1.len⟩
theorem decls_split {w : World} {X : List Nat} {l : List ODecl} {xs : List Value} {k : Nat} {d : ODecl} (h : ReadsL w X (l.flatMap declT) xs) (hk : l[k]? = some d) :
  ∃ A C an cn sa cs, xs = A ++ (declL d an cn sa cs ++ C) ∧ A.length = k * 11 ∧ ReadsL w X ((l.take k).flatMap declT) A ∧ ReadsL w X ((l.drop (k + 1)).flatMap declT) C ∧ DecX w X d an cn sa cs := by
 obtain ⟨hkl, rfl⟩ := List.getElem?_eq_some_iff.1 hk; have e : l = l.take k ++ (l[k] :: l.drop (k + 1)) := by rw [← List.drop_eq_getElem_cons hkl, List.take_append_drop]
 rw [e, List.flatMap_append, List.flatMap_cons] at h; have e2 : (l.take k ++ (l[k] :: l.drop (k + 1)))[k]? = l[k]? := by rw [← e]
 obtain ⟨A, b, rfl, hA, hb, hl⟩ := readsL_split h; obtain ⟨c, C, rfl, hc, hC, -⟩ := readsL_split hb; obtain ⟨an, cn, sa, cs, rfl, h1, h2, h3, h4, h5, h6⟩ := decl_cells hc; refine ⟨A, C, an, cn, sa, cs, rfl, ?_, hA, hC, ⟨h3, h6, h1, h2, h4, h5⟩⟩; rw [hl]
 have : ∀ m : List ODecl, (m.flatMap declT).length = m.length * 11 := fun m => by
  induction m with
  | nil => rfl
  | cons x m ih => rw [List.flatMap_cons, List.length_append, ih, declT_len, List.length_cons]; omega
 rw [this, List.length_take]; omega
theorem decls_put {w : World} {X : List Nat} {l : List ODecl} {k : Nat} {d : ODecl} {A C : List Value} {an : Option Addr} {cn : Nat} {sa : Option Addr} {cs : Nat} (hk : k < l.length) (hA : ReadsL w X ((l.take k).flatMap declT) A) (hC : ReadsL w X ((l.drop (k + 1)).flatMap declT) C) (hd : DecX w X d an cn sa cs) :
  ReadsL w X ((l.set k d).flatMap declT) (A ++ (declL d an cn sa cs ++ C)) := by
 rw [List.set_eq_take_append_cons_drop, if_pos hk, List.flatMap_append, List.flatMap_cons]; exact ReadsL.append (ReadsL.append hC (cells_decl hd.names hd.subs)) hA
structure FPost (d d' : ODecl) (g o : Nat) (an : Option Addr) (cn : Nat) (sa : Option Addr) (cs : Nat) (X : List Nat) (W : World) (e : Ending) (W' : World) : Prop where
  of ::
  ret : ∃ v, e = .returned v
  out : ∃ an' cn' sa' cs' W1 ps, Below W.heap.size W W1 ∧ W' = putL g o ps W1 ∧ setP ps (declL d an cn sa cs) = declL d' an' cn' sa' cs' ∧ (∀ p ∈ ps, p.1 < 11) ∧ DecX W1 (g :: X) d' an' cn' sa' cs'
structure DAt (W : World) (g o : Nat) (d : ODecl) (an : Option Addr) (cn : Nat) (sa : Option Addr) (cs : Nat) : Prop where
  lt : g < W.heap.size
  cell : ∀ j u, (declL d an cn sa cs)[j]? = some u → W.cell? ⟨g, o + j, none⟩ = some u
  frz : ∀ i, W.frozen? ⟨g, i, none⟩ = false
theorem DAt.below {W W' : World} {g o : Nat} {d : ODecl} {an : Option Addr} {cn : Nat} {sa : Option Addr} {cs : Nat} (h : DAt W g o d an cn sa cs) (m : Bw W W') : DAt W' g o d an cn sa cs := ⟨Nat.lt_of_lt_of_le h.lt m.size, fun j u hj => (m.cell (p := ⟨g, o + j, none⟩) h.lt).trans (h.cell j u hj), fun i => (m.frozen (p := ⟨g, i, none⟩) h.lt).trans (h.frz i)⟩
set_option maxRecDepth 100000 in
set_option maxHeartbeats 4000000 in
theorem fields2_any (s : ByteArray) (BN : Nat) (d : ODecl) (g o : Nat) (and : Option Addr) (cnd : Nat) (asd : Option Addr) (csd : Nat) (X : List Nat) (W : World) (hX : ∀ k, k ∈ X → k < W.heap.size) (ha : DAt W g o d and cnd asd csd) (hd : DecX W (g :: X) d and cnd asd csd) (hn : CBox W BN 9 #[.string s]) :
  Calls Tryz.prog 24 #[.pointer (some ⟨g, o, none⟩), .pointer (some ⟨BN, 0, none⟩)] W (FPost d (nameD d s) g o and cnd asd csd X W) := by
 have n0 := hn.cell (i := 0) (v := .string s) rfl; have nl := hn.lt; have hal := qalloc W (.cells #[.string s] 9); have hbx := CBox.new W 9 #[.string s]; have gl := (ha.below hal).lt; have HSB := lH (strs_box (X := g :: X) (ss := [s]) (fun h => by rcases List.mem_cons.1 h with h | h; have := ha.lt; omega; have := hX _ h; omega) hbx (by simp)); have HD1 := lH (hd.below hal); have c3 := (ha.below hal).cell 3 (.slice and d.names.length cnd) rfl; have f3 := (ha.below hal).frz (o + 3); have HAL := lH hal; clear hal hbx ha hd hX hn
 go_enter Tryz.func24, Tryz.ntmps24
 go_wp2
 go_end0
 exact ⟨⟨_, rfl⟩, some ⟨W.heap.size, 0, none⟩, 1, asd, csd, W.alloc (.cells #[.string s] 9), [(3, .slice (some ⟨W.heap.size, 0, none⟩) 1 1)], HAL.out, rfl, rfl, by simp, ⟨HSB.out, HD1.out.subs, Nat.le_refl _, by decide, HD1.out.hs1, HD1.out.hs2⟩⟩
set_option maxRecDepth 100000 in
set_option maxHeartbeats 4000000 in
theorem fields3_any (x : Ex) (p : Bool) (ax : Option Addr) (cx : Nat) (BB BP : Nat) (d : ODecl) (g o : Nat) (and : Option Addr) (cnd : Nat) (asd : Option Addr) (csd : Nat) (X : List Nat) (W : World) (_hX : ∀ k, k ∈ X → k < W.heap.size) (ha : DAt W g o d and cnd asd csd) (hd : DecX W (g :: X) d and cnd asd csd) (hb : CBox W BB 41 (xA x ax cx)) (hp : CBox W BP 4 #[.bool p]) (hx : ExIn W (g :: X) x ax cx) (hg1 : g ≠ BB) (hg2 : g ≠ BP) :
  Calls Tryz.prog 25 #[.pointer (some ⟨g, o, none⟩), .pointer (some ⟨BB, 0, none⟩), .pointer (some ⟨BP, 0, none⟩)] W (FPost d (bodyD d x p) g o and cnd asd csd X W) := by
 have HB := lH hb; have HP := lH hp; have HX := lH hx; have HA := lH ha; have HD := lH hd; clear hb hp hx ha hd
 go_enter Tryz.func25, Tryz.ntmps25
 have hb0 : Bw W W.drew := (Mod.refl [] W).drew.below
 have SW : Hid (∀ V : World, CBox V BB 41 (xA x ax cx) → CBox V BP 4 #[.bool p] → (V.cell? ⟨BB, 0, none⟩ = some (.int .i64 x.kind) ∧ V.cell? ⟨BB, 1, none⟩ = some (.string x.name) ∧ V.cell? ⟨BB, 2, none⟩ = some (.string x.more) ∧ V.cell? ⟨BB, 3, none⟩ = some (.int .i64 x.num) ∧ V.cell? ⟨BB, 4, none⟩ = some (.int .i64 x.den) ∧ V.cell? ⟨BB, 5, none⟩ = some (.slice ax x.subs.length cx) ∧ V.cell? ⟨BP, 0, none⟩ = some (.bool p) ∧ BB < V.heap.size ∧ BP < V.heap.size)) := fun V h1 h2 => ⟨h1.cell (i := 0) rfl, h1.cell (i := 1) rfl, h1.cell (i := 2) rfl, h1.cell (i := 3) rfl, h1.cell (i := 4) rfl, h1.cell (i := 5) rfl, h2.cell (i := 0) rfl, h1.lt, h2.lt⟩
 go_upto_region 0 with (fail)
 refine wp_region_noPanic (region_planT (fun W : World => W.cell? ⟨BB, 0, none⟩ = some (.int .i64 x.kind) ∧ W.cell? ⟨BB, 1, none⟩ = some (.string x.name) ∧ W.cell? ⟨BB, 2, none⟩ = some (.string x.more) ∧ W.cell? ⟨BB, 3, none⟩ = some (.int .i64 x.num) ∧ W.cell? ⟨BB, 4, none⟩ = some (.int .i64 x.den) ∧ W.cell? ⟨BB, 5, none⟩ = some (.slice ax x.subs.length cx) ∧ W.cell? ⟨BP, 0, none⟩ = some (.bool p) ∧ BB < W.heap.size ∧ BP < W.heap.size) (.take 0 (.take 1 (.take 2 (.take 3 (.take 4 (.take 5 (.one 6 (.take 7 (.take 8 (.one 9 .done)))))))))) mixedK (by kernel_rfl) (fun _ _ _ _ _ h => h) (SW.out _ (HB.out.below hb0) (HP.out.below hb0)) ?_)
 iterate 6 (refine planT_take (v := ?_) rfl (by rfl) ?_ ?_; rotate_left; (focus (intro wq hSw; (try dsimp only at hSw); go_simp; (try rw [if_neg (by first | omega | (simp; omega))]); (try with_reducible rfl))); (try simp only [gA, gB, gC, Act.put, gD, gE, gF]))
 have HB1 := lH (HB.out.below hb0); have HP1 := lH (HP.out.below hb0); have HA1 := lH (HA.out.below hb0); have HX1 := lH (HX.out.below hb0); have HD1 := lH (HD.out.below hb0); have HAL := lH hb0; clear hb0 HB HP HA HX HD; generalize W.drew = v0 at *; have c5 := (HA1.out).cell 5 (.int .i64 d.body.kind) rfl; have f5 := (HA1.out).frz (o + 5); have c6 := (HA1.out).cell 6 (.string d.body.name) rfl; have f6 := (HA1.out).frz (o + 6); have c7 := (HA1.out).cell 7 (.string d.body.more) rfl; have f7 := (HA1.out).frz (o + 7); have c8 := (HA1.out).cell 8 (.int .i64 d.body.num) rfl
 have f8 := (HA1.out).frz (o + 8); have c9 := (HA1.out).cell 9 (.int .i64 d.body.den) rfl; have f9 := (HA1.out).frz (o + 9); have c10 := (HA1.out).cell 10 (.slice asd d.body.subs.length csd) rfl; have f10 := (HA1.out).frz (o + 10); have gl := HA1.out.lt; refine planT_one rfl (by rfl) (fun K hK => ?_); go_simp

 have c2 := (HA1.out).cell 2 (.bool d.pub) rfl; have f2 := (HA1.out).frz (o + 2); rw [show ((((((v0).setCell ⟨g, o + 5, none⟩ (.int .i64 x.kind)).setCell ⟨g, o + 5 + 1, none⟩ (.string x.name)).setCell ⟨g, o + 5 + 2, none⟩ (.string x.more)).setCell ⟨g, o + 5 + 3, none⟩ (.int .i64 x.num)).setCell ⟨g, o + 5 + 4, none⟩ (.int .i64 x.den)).setCell ⟨g, o + 5 + 5, none⟩ (.slice ax x.subs.length cx) = putL g o [(5, .int .i64 x.kind), (6, .string x.name), (7, .string x.more), (8, .int .i64 x.num), (9, .int .i64 x.den), (10, .slice ax x.subs.length cx)] v0 from rfl]
 have hmd := putL_mod g o [(5, .int .i64 x.kind), (6, .string x.name), (7, .string x.more), (8, .int .i64 x.num), (9, .int .i64 x.den), (10, .slice ax x.subs.length cx)] v0; have HB11 := HB1.out.mod hmd (by simp; exact fun e => hg1 e.symm); have HP11 := HP1.out.mod hmd (by simp; exact fun e => hg2 e.symm); refine hK.out _ _ (SW.out _ HB11 HP11) ?_; clear hK K; (try simp only [gA, gB, gC, Act.put, gD, gE, gF]); obtain ⟨w2, hw2⟩ := putL_some g o [(5, .int .i64 x.kind), (6, .string x.name), (7, .string x.more), (8, .int .i64 x.num), (9, .int .i64 x.den), (10, .slice ax x.subs.length cx)] c2
 have hf2 := (putL_frz g o [(5, .int .i64 x.kind), (6, .string x.name), (7, .string x.more), (8, .int .i64 x.num), (9, .int .i64 x.den), (10, .slice ax x.subs.length cx)] v0 _).trans f2; have gl := Nat.lt_of_lt_of_le gl hmd.size; obtain ⟨v1, hv1⟩ : ∃ V, putL g o [(5, .int .i64 x.kind), (6, .string x.name), (7, .string x.more), (8, .int .i64 x.num), (9, .int .i64 x.den), (10, .slice ax x.subs.length cx)] v0 = V := ⟨_, rfl⟩; rw [hv1] at HB11 HP11 gl hw2 hf2 ⊢; have HB1 := lH HB11; have HP1 := lH HP11; have HV1 := lH hv1; clear hv1 hmd HB11 HP11
 clear c5 f5 c6 f6 c7 f7 c8 f8 c9 f9 c10 f10 c2 f2
 iterate 2 (refine planT_take (v := ?_) rfl (by rfl) ?_ ?_; rotate_left; (focus (intro wq hSw; (try dsimp only at hSw); go_simp; (try rw [if_neg (by first | omega | (simp; omega))]); (try with_reducible rfl))); (try simp only [gA, gB, gC, Act.put, gD, gE, gF]))
 refine planT_one rfl (by rfl) (fun K hK => ?_); go_simp; have hmd := (Mod.refl [g] v1).setCell (p := ⟨g, o + 2, none⟩) (by simp) (.bool p); refine hK.out _ _ (SW.out _ (HB1.out.mod hmd (by simp; exact fun e => hg1 e.symm)) (HP1.out.mod hmd (by simp; exact fun e => hg2 e.symm))) ?_; clear hK K; (try simp only [gA, gB, gC, Act.put, gD, gE, gF]); refine planT_done ?_; refine NoPanic.normal ?_; clear hmd hw2 hf2; generalize hv2 : v1.setCell ⟨g, o + 2, none⟩ (.bool p) = v2 at *; go_wp2
 go_end0
 exact ⟨⟨_, rfl⟩, and, cnd, ax, cx, v0, [(5, .int .i64 x.kind), (6, .string x.name), (7, .string x.more), (8, .int .i64 x.num), (9, .int .i64 x.den), (10, .slice ax x.subs.length cx)] ++ [(2, .bool p)], HAL.out, by rw [← hv2, ← HV1.out]; rfl, rfl, by simp, ⟨HD1.out.names, HX1.out.subs, HD1.out.hn1, HD1.out.hn2, HX1.out.h1, HX1.out.h2⟩⟩
set_option maxRecDepth 100000 in
set_option maxHeartbeats 4000000 in
theorem fields4_any (s : ByteArray) (x : Ex) (p : Bool) (ax : Option Addr) (cx : Nat) (BN BB BP : Nat) (d : ODecl) (g o : Nat) (and : Option Addr) (cnd : Nat) (asd : Option Addr) (csd : Nat) (X : List Nat) (W : World) (hX : ∀ k, k ∈ X → k < W.heap.size) (ha : DAt W g o d and cnd asd csd) (hd : DecX W (g :: X) d and cnd asd csd) (hn : CBox W BN 9 #[.string s]) (hb : CBox W BB 41 (xA x ax cx)) (hp : CBox W BP 4 #[.bool p]) (hx : ExIn W (g :: X) x ax cx) (hg0 : g ≠ BN) (hg1 : g ≠ BB) (hg2 : g ≠ BP) :
  Calls Tryz.prog 26 #[.pointer (some ⟨g, o, none⟩), .pointer (some ⟨BN, 0, none⟩), .pointer (some ⟨BB, 0, none⟩), .pointer (some ⟨BP, 0, none⟩)] W (FPost d (nameD (bodyD d x p) s) g o and cnd asd csd X W) := by
 have HN := lH hn; have HB := lH hb; have HP := lH hp; have HX := lH hx; have HA := lH ha; have HD := lH hd; have HXX := lH hX; clear hn hb hp hx ha hd hX
 go_enter Tryz.func26, Tryz.ntmps26
 have hb0 : Bw W W.drew := (Mod.refl [] W).drew.below
 have SW : Hid (∀ V : World, CBox V BN 9 #[.string s] → CBox V BB 41 (xA x ax cx) → CBox V BP 4 #[.bool p] → (V.cell? ⟨BN, 0, none⟩ = some (.string s) ∧ V.cell? ⟨BB, 0, none⟩ = some (.int .i64 x.kind) ∧ V.cell? ⟨BB, 1, none⟩ = some (.string x.name) ∧ V.cell? ⟨BB, 2, none⟩ = some (.string x.more) ∧ V.cell? ⟨BB, 3, none⟩ = some (.int .i64 x.num) ∧ V.cell? ⟨BB, 4, none⟩ = some (.int .i64 x.den) ∧ V.cell? ⟨BB, 5, none⟩ = some (.slice ax x.subs.length cx) ∧ V.cell? ⟨BP, 0, none⟩ = some (.bool p) ∧ BN < V.heap.size ∧ BB < V.heap.size ∧ BP < V.heap.size)) := fun V h0 h1 h2 => ⟨h0.cell (i := 0) rfl, h1.cell (i := 0) rfl, h1.cell (i := 1) rfl, h1.cell (i := 2) rfl, h1.cell (i := 3) rfl, h1.cell (i := 4) rfl, h1.cell (i := 5) rfl, h2.cell (i := 0) rfl, h0.lt, h1.lt, h2.lt⟩
 go_upto_region 0 with (fail)
 refine wp_region_noPanic (region_planT (fun W : World => W.cell? ⟨BN, 0, none⟩ = some (.string s) ∧ W.cell? ⟨BB, 0, none⟩ = some (.int .i64 x.kind) ∧ W.cell? ⟨BB, 1, none⟩ = some (.string x.name) ∧ W.cell? ⟨BB, 2, none⟩ = some (.string x.more) ∧ W.cell? ⟨BB, 3, none⟩ = some (.int .i64 x.num) ∧ W.cell? ⟨BB, 4, none⟩ = some (.int .i64 x.den) ∧ W.cell? ⟨BB, 5, none⟩ = some (.slice ax x.subs.length cx) ∧ W.cell? ⟨BP, 0, none⟩ = some (.bool p) ∧ BN < W.heap.size ∧ BB < W.heap.size ∧ BP < W.heap.size) (.take 0 (.take 1 (.take 2 (.take 3 (.take 5 (.take 6 (.one 4 (.take 7 (.take 8 (.one 9 (.take 10 (.take 11 (.one 12 (.take 13 (.take 14 (.one 15 .done)))))))))))))))) mixedK (by kernel_rfl) (fun _ _ _ _ _ h => h) (SW.out _ (HN.out.below hb0) (HB.out.below hb0) (HP.out.below hb0)) ?_)
 iterate 6 (refine planT_take (v := ?_) rfl (by rfl) ?_ ?_; rotate_left; (focus (intro wq hSw; (try dsimp only at hSw); go_simp; (try rw [if_neg (by first | omega | (simp; omega))]); (try with_reducible rfl))); (try simp only [gA, gB, gC, Act.put, gD, gE, gF]))
 have HN1 := lH (HN.out.below hb0); have HB1 := lH (HB.out.below hb0); have HP1 := lH (HP.out.below hb0); have HA1 := lH (HA.out.below hb0); have HX1 := lH (HX.out.below hb0); have HD1 := lH (HD.out.below hb0); have HXX1 : Hid (∀ k, k ∈ X → k < W.drew.heap.size) := fun k hk => Nat.lt_of_lt_of_le (HXX.out k hk) hb0.size; have HAL0 := lH hb0; clear hb0 HN HB HP HA HX HD HXX; generalize W.drew = u0 at *; have hal := qalloc u0 (.cells #[.string s] 9); have hbx := CBox.new u0 9 #[.string s]
 have HSB := lH (strs_box (X := g :: X) (ss := [s]) (fun h => by rcases List.mem_cons.1 h with h | h; have := HA1.out.lt; omega; have := HXX1.out _ h; omega) hbx (by simp)); refine planT_one rfl (by rfl) (fun K hK => ?_); go_simp; refine hK.out _ _ (SW.out _ (HN1.out.below hal) (HB1.out.below hal) (HP1.out.below hal)) ?_; clear hK K; (try simp only [gA, gB, gC, Act.put, gD, gE, gF]); have HN1 := lH (HN1.out.below hal); have HB1 := lH (HB1.out.below hal); have HP1 := lH (HP1.out.below hal); have HA1 := lH (HA1.out.below hal); have HX1 := lH (HX1.out.below hal)
 have HD1 := lH (HD1.out.below hal); have HAL := lH (qtrans HAL0.out hal); clear hal hbx HAL0 HXX1; generalize World.alloc u0 _ = v0 at *; generalize u0.heap.size = S at *
 iterate 2 (refine planT_take (v := ?_) rfl (by rfl) ?_ ?_; rotate_left; (focus (intro wq hSw; (try dsimp only at hSw); go_simp; (try rw [if_neg (by first | omega | (simp; omega))]); (try with_reducible rfl))); (try simp only [gA, gB, gC, Act.put, gD, gE, gF]))
 have c3 := (HA1.out).cell 3 (.slice and d.names.length cnd) rfl; have f3 := (HA1.out).frz (o + 3); have c5 := (HA1.out).cell 5 (.int .i64 d.body.kind) rfl; have f5 := (HA1.out).frz (o + 5); have c6 := (HA1.out).cell 6 (.string d.body.name) rfl; have f6 := (HA1.out).frz (o + 6); have c7 := (HA1.out).cell 7 (.string d.body.more) rfl; have f7 := (HA1.out).frz (o + 7); have c8 := (HA1.out).cell 8 (.int .i64 d.body.num) rfl; have f8 := (HA1.out).frz (o + 8); have c9 := (HA1.out).cell 9 (.int .i64 d.body.den) rfl; have f9 := (HA1.out).frz (o + 9)
 have c10 := (HA1.out).cell 10 (.slice asd d.body.subs.length csd) rfl; have f10 := (HA1.out).frz (o + 10); have c2 := (HA1.out).cell 2 (.bool d.pub) rfl; have f2 := (HA1.out).frz (o + 2); have gl := HA1.out.lt; refine planT_one rfl (by rfl) (fun K hK => ?_); go_simp; rw [show (v0).setCell ⟨g, o + 3, none⟩ (.slice (some ⟨S, 0, none⟩) 1 1) = putL g o [(3, .slice (some ⟨S, 0, none⟩) 1 1)] v0 from rfl]; have hmd := putL_mod g o [(3, .slice (some ⟨S, 0, none⟩) 1 1)] v0; have HN11 := HN1.out.mod hmd (by simp; exact fun e => hg0 e.symm)
 have HB11 := HB1.out.mod hmd (by simp; exact fun e => hg1 e.symm); have HP11 := HP1.out.mod hmd (by simp; exact fun e => hg2 e.symm); refine hK.out _ _ (SW.out _ HN11 HB11 HP11) ?_; clear hK K; (try simp only [gA, gB, gC, Act.put, gD, gE, gF]); obtain ⟨w5, hw5⟩ := putL_some g o [(3, .slice (some ⟨S, 0, none⟩) 1 1)] c5; have hf5 := (putL_frz g o [(3, .slice (some ⟨S, 0, none⟩) 1 1)] v0 _).trans f5; obtain ⟨w6, hw6⟩ := putL_some g o [(3, .slice (some ⟨S, 0, none⟩) 1 1)] c6; have hf6 := (putL_frz g o [(3, .slice (some ⟨S, 0, none⟩) 1 1)] v0 _).trans f6
 obtain ⟨w7, hw7⟩ := putL_some g o [(3, .slice (some ⟨S, 0, none⟩) 1 1)] c7; have hf7 := (putL_frz g o [(3, .slice (some ⟨S, 0, none⟩) 1 1)] v0 _).trans f7; obtain ⟨w8, hw8⟩ := putL_some g o [(3, .slice (some ⟨S, 0, none⟩) 1 1)] c8; have hf8 := (putL_frz g o [(3, .slice (some ⟨S, 0, none⟩) 1 1)] v0 _).trans f8; obtain ⟨w9, hw9⟩ := putL_some g o [(3, .slice (some ⟨S, 0, none⟩) 1 1)] c9; have hf9 := (putL_frz g o [(3, .slice (some ⟨S, 0, none⟩) 1 1)] v0 _).trans f9; obtain ⟨w10, hw10⟩ := putL_some g o [(3, .slice (some ⟨S, 0, none⟩) 1 1)] c10
 have hf10 := (putL_frz g o [(3, .slice (some ⟨S, 0, none⟩) 1 1)] v0 _).trans f10; obtain ⟨w2, hw2⟩ := putL_some g o [(3, .slice (some ⟨S, 0, none⟩) 1 1)] c2; have hf2 := (putL_frz g o [(3, .slice (some ⟨S, 0, none⟩) 1 1)] v0 _).trans f2; have gl := Nat.lt_of_lt_of_le gl hmd.size; obtain ⟨v1, hv1⟩ : ∃ V, putL g o [(3, .slice (some ⟨S, 0, none⟩) 1 1)] v0 = V := ⟨_, rfl⟩; rw [hv1] at HN11 HB11 HP11 gl hw5 hf5 hw6 hf6 hw7 hf7 hw8 hf8 hw9 hf9 hw10 hf10 hw2 hf2 ⊢; have HN1 := lH HN11; have HB1 := lH HB11; have HP1 := lH HP11; have HV1 := lH hv1; clear hv1 hmd HN11 HB11 HP11
 clear c3 f3 c5 f5 c6 f6 c7 f7 c8 f8 c9 f9 c10 f10 c2 f2; have c5 := hw5; have f5 := hf5; clear hw5 hf5; have c6 := hw6; have f6 := hf6; clear hw6 hf6; have c7 := hw7; have f7 := hf7; clear hw7 hf7; have c8 := hw8; have f8 := hf8; clear hw8 hf8; have c9 := hw9; have f9 := hf9; clear hw9 hf9; have c10 := hw10; have f10 := hf10; clear hw10 hf10; have c2 := hw2; have f2 := hf2; clear hw2 hf2
 iterate 2 (refine planT_take (v := ?_) rfl (by rfl) ?_ ?_; rotate_left; (focus (intro wq hSw; (try dsimp only at hSw); go_simp; (try rw [if_neg (by first | omega | (simp; omega))]); (try with_reducible rfl))); (try simp only [gA, gB, gC, Act.put, gD, gE, gF]))
 refine planT_one rfl (by rfl) (fun K hK => ?_); go_simp; rw [show ((((((v1).setCell ⟨g, o + 5, none⟩ (.int .i64 x.kind)).setCell ⟨g, o + 5 + 1, none⟩ (.string x.name)).setCell ⟨g, o + 5 + 2, none⟩ (.string x.more)).setCell ⟨g, o + 5 + 3, none⟩ (.int .i64 x.num)).setCell ⟨g, o + 5 + 4, none⟩ (.int .i64 x.den)).setCell ⟨g, o + 5 + 5, none⟩ (.slice ax x.subs.length cx) = putL g o [(5, .int .i64 x.kind), (6, .string x.name), (7, .string x.more), (8, .int .i64 x.num), (9, .int .i64 x.den), (10, .slice ax x.subs.length cx)] v1 from rfl]
 have hmd := putL_mod g o [(5, .int .i64 x.kind), (6, .string x.name), (7, .string x.more), (8, .int .i64 x.num), (9, .int .i64 x.den), (10, .slice ax x.subs.length cx)] v1; have HN11 := HN1.out.mod hmd (by simp; exact fun e => hg0 e.symm); have HB11 := HB1.out.mod hmd (by simp; exact fun e => hg1 e.symm); have HP11 := HP1.out.mod hmd (by simp; exact fun e => hg2 e.symm); refine hK.out _ _ (SW.out _ HN11 HB11 HP11) ?_; clear hK K; (try simp only [gA, gB, gC, Act.put, gD, gE, gF])
 obtain ⟨w2, hw2⟩ := putL_some g o [(5, .int .i64 x.kind), (6, .string x.name), (7, .string x.more), (8, .int .i64 x.num), (9, .int .i64 x.den), (10, .slice ax x.subs.length cx)] c2; have hf2 := (putL_frz g o [(5, .int .i64 x.kind), (6, .string x.name), (7, .string x.more), (8, .int .i64 x.num), (9, .int .i64 x.den), (10, .slice ax x.subs.length cx)] v1 _).trans f2; have gl := Nat.lt_of_lt_of_le gl hmd.size
 obtain ⟨v2, hv2⟩ : ∃ V, putL g o [(5, .int .i64 x.kind), (6, .string x.name), (7, .string x.more), (8, .int .i64 x.num), (9, .int .i64 x.den), (10, .slice ax x.subs.length cx)] v1 = V := ⟨_, rfl⟩; rw [hv2] at HN11 HB11 HP11 gl hw2 hf2 ⊢; have HN1 := lH HN11; have HB1 := lH HB11; have HP1 := lH HP11; have HV2 := lH hv2; clear hv2 hmd HN11 HB11 HP11; clear c5 f5 c6 f6 c7 f7 c8 f8 c9 f9 c10 f10 c2 f2
 iterate 2 (refine planT_take (v := ?_) rfl (by rfl) ?_ ?_; rotate_left; (focus (intro wq hSw; (try dsimp only at hSw); go_simp; (try rw [if_neg (by first | omega | (simp; omega))]); (try with_reducible rfl))); (try simp only [gA, gB, gC, Act.put, gD, gE, gF]))
 refine planT_one rfl (by rfl) (fun K hK => ?_); go_simp; have hmd := (Mod.refl [g] v2).setCell (p := ⟨g, o + 2, none⟩) (by simp) (.bool p); refine hK.out _ _ (SW.out _ (HN1.out.mod hmd (by simp; exact fun e => hg0 e.symm)) (HB1.out.mod hmd (by simp; exact fun e => hg1 e.symm)) (HP1.out.mod hmd (by simp; exact fun e => hg2 e.symm))) ?_; clear hK K; (try simp only [gA, gB, gC, Act.put, gD, gE, gF]); refine planT_done ?_; refine NoPanic.normal ?_; clear hmd hw2 hf2; generalize hv3 : v2.setCell ⟨g, o + 2, none⟩ (.bool p) = v3 at *; go_wp2
 go_end0
 exact ⟨⟨_, rfl⟩, some ⟨S, 0, none⟩, 1, ax, cx, v0, [(3, .slice (some ⟨S, 0, none⟩) 1 1)] ++ ([(5, .int .i64 x.kind), (6, .string x.name), (7, .string x.more), (8, .int .i64 x.num), (9, .int .i64 x.den), (10, .slice ax x.subs.length cx)] ++ [(2, .bool p)]), HAL.out, by rw [← hv3, ← HV2.out, ← HV1.out]; rfl, rfl, by simp, ⟨HSB.out, HX1.out.subs, Nat.le_refl _, by decide, HX1.out.h1, HX1.out.h2⟩⟩
end Go.Proofs.YtlgnedahnaojlaaGreatDoor

