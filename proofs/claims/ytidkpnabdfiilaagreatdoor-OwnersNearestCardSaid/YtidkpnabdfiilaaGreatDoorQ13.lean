/- The reader of owners.Parse: begin and read. The reader of owners.Parse: a word 'group', a person. The reader of owners.Parse: a person; read, whatever the word. -/
import Derived.Test.YtidkpnabdfiilaaGreatDoorQ12
import Derived.Test.YtidkpnabdfiilaaGreatDoorQ08
import Derived.Maps.AppendAt
namespace Go.Proofs.YtidkpnabdfiilaaGreatDoor
open Go.RowKit

theorem begin_any (pre : ByteArray) (R base p : Nat) (rs : List ORule) (w : World) (h : RdI w R base p rs) (hR : R < base) (hb : base ≤ w.heap.size) (hl : rs.length ≤ 40000) :
    Calls Tryz.prog 116 #[.pointer (some ⟨R, 0, none⟩), .string pre] w fun e w' => e = .returned (.tuple #[]) ∧ RdI w' R base p (rs ++ [⟨pre, []⟩]) ∧ Wr R base w w' := by
  obtain ⟨ir0, hir, hzr0, hzr1, hzr2⟩ := info_parts infoRule
  obtain ⟨rv, h0, h1⟩ := h
  obtain ⟨xs, hrow, hrd⟩ := h1.toT
  obtain ⟨a, cap, rfl⟩ := owns_val hrow
  have c1 := h0.cell (i := 1) rfl
  have l0 := h0.lt
  have H0 := Lib.hid h0
  have HR := Lib.hid hrd
  clear h0 h1 hrd
  go_enter Tryz.func116, Tryz.ntmps116
  go_wp2_with (at_builtin; refine wpList_append_own_at _ rfl _ _ 71 rfl base 75 ir0 _ 2 40 Tryz.underlying71 hir hzr0 hzr1 hzr2 rfl (by decide) _ _ _ rfl (hrow.alloc _) ⟨w.heap.size, 0, none⟩ 1 1 [.string pre, .slice none 0 0] rfl rfl (cell_two _ _ _ _) (by simp [Value.oneCell']) (by unfold maxLen; omega) (by omega) (by simp; omega) ?_)
  intro v' w1 hown hg _ hbk
  obtain ⟨b1, hrd', hwr⟩ := RdI.begin H0.out hrow HR.out hown hg (by simpa using hbk) hb hR
  have d1 := b1.cell (i := 1) rfl
  have f1 := b1.frozen 1
  have l1 := b1.lt
  obtain ⟨va', vc', rfl⟩ := owns_val hown
  have HD := Lib.hid hrd'
  clear hown hg hbk b1 hrd' hrow
  go_wp2
  go_end0
  exact ⟨rfl, HD.out, hwr⟩

def ReadPost (R base p : Nat) (rs : List ORule) (s : ByteArray) (w : World) (e : Ending) (w' : World) : Prop :=
  match readW p rs s with
  | some (p', rs') => e = .returned (.bool true) ∧ RdI w' R base p' rs' ∧ Wr R base w w'
  | none => e = .returned (.bool false) ∧ Wr R base w w'
section
variable {R base p p' : Nat} {rs rs' : List ORule} {s : ByteArray} {w w' : World}
theorem ReadPost.yes (h : readW p rs s = some (p', rs')) (h1 : RdI w' R base p' rs') (h2 : Wr R base w w') : ReadPost R base p rs s w (.returned (.bool true)) w' := by
  unfold ReadPost; rw [h]; exact ⟨rfl, h1, h2⟩
theorem ReadPost.no (h : readW p rs s = none) (h2 : Wr R base w w') : ReadPost R base p rs s w (.returned (.bool false)) w' := by
  unfold ReadPost; rw [h]; exact ⟨rfl, h2⟩
end
/-- The reader's cells. -/
theorem RdI.val {w : World} {R base p : Nat} {rs : List ORule} (h : RdI w R base p rs) (_hR : R < base) : ∃ a cap, w.cell? ⟨R, 0, none⟩ = some (.int .i64 p) ∧ w.cell? ⟨R, 1, none⟩ = some (.slice a rs.length cap) ∧ R < w.heap.size ∧ w.frozen? ⟨R, 0, none⟩ = false := by
  obtain ⟨rv, h0, h1⟩ := h
  obtain ⟨xs, hrow, _⟩ := h1.toT
  obtain ⟨a, cap, rfl⟩ := owns_val hrow
  exact ⟨a, cap, h0.cell (i := 0) rfl, h0.cell (i := 1) rfl, h0.lt, h0.frozen 0⟩
set_option maxHeartbeats 1000000 in
theorem read_all (R base : Nat) (rs : List ORule) (s : ByteArray) (w : World) (h : RdI w R base 0 rs) (hR : R < base) (hb : base ≤ w.heap.size) (hl : rs.length ≤ 40000) (hs : (s.toList == [97, 108, 108]) = true) :
    Calls Tryz.prog 74 #[.pointer (some ⟨R, 0, none⟩), .string s] w (ReadPost R base 0 rs s w) := by
  obtain ⟨a, cap, c0, c1, l0, f0⟩ := h.val hR
  have HP := Lib.hid (readW_all (rs := rs) hs)
  have H := Lib.hid h
  clear h
  go_enter Tryz.func74, Tryz.ntmps74
  go_wp2_with (fail)
  refine (begin_any ⟨#[]⟩ R base 0 rs w H.out hR hb hl).mono ?_
  rintro e w1 ⟨rfl, h1, hw1⟩
  obtain ⟨a', cap', d0, d1, l1, f1⟩ := h1.val hR
  have HN := Lib.hid (h1.place hR 2)
  clear c0 c1 l0 f0 d1 h1
  go_wp2
  go_ret
  exact ReadPost.yes HP.out HN.out.1 (hw1.trans HN.out.2)
set_option maxHeartbeats 1000000 in
theorem read_prefix (R base : Nat) (rs : List ORule) (s : ByteArray) (w : World) (h : RdI w R base 0 rs) (hR : R < base) (hl : rs.length ≤ 40000) (hs1 : (s.toList == [97, 108, 108]) = false) (hs : (s.toList == [112, 114, 101, 102, 105, 120]) = true) :
    Calls Tryz.prog 74 #[.pointer (some ⟨R, 0, none⟩), .string s] w (ReadPost R base 0 rs s w) := by
  obtain ⟨a, cap, c0, c1, l0, f0⟩ := h.val hR
  have HP := Lib.hid (readW_prefix (rs := rs) hs1 hs)
  have HN := Lib.hid (h.place hR 1)
  clear h
  go_enter Tryz.func74, Tryz.ntmps74
  go_wp2
  go_ret
  exact ReadPost.yes HP.out HN.out.1 HN.out.2
set_option maxHeartbeats 1000000 in
theorem read_none0 (R base : Nat) (rs : List ORule) (s : ByteArray) (w : World) (h : RdI w R base 0 rs) (hR : R < base) (hl : rs.length ≤ 40000) (hs1 : (s.toList == [97, 108, 108]) = false) (hs : (s.toList == [112, 114, 101, 102, 105, 120]) = false) :
    Calls Tryz.prog 74 #[.pointer (some ⟨R, 0, none⟩), .string s] w (ReadPost R base 0 rs s w) := by
  obtain ⟨a, cap, c0, c1, l0, f0⟩ := h.val hR
  have HP := Lib.hid (readW_none0 (rs := rs) hs1 hs)
  clear h
  go_enter Tryz.func74, Tryz.ntmps74
  go_wp2
  go_ret
  exact ReadPost.no HP.out (Wr.refl _ _ _)
set_option maxHeartbeats 1000000 in
theorem read_pre (R base : Nat) (rs : List ORule) (s : ByteArray) (w : World) (h : RdI w R base 1 rs) (hR : R < base) (hb : base ≤ w.heap.size) (hl : rs.length ≤ 40000) (hz : s.size ≤ 40000) :
    Calls Tryz.prog 74 #[.pointer (some ⟨R, 0, none⟩), .string s] w (ReadPost R base 1 rs s w) := by
  obtain ⟨a, cap, c0, c1, l0, f0⟩ := h.val hR
  have H := Lib.hid h
  clear h
  cases hs : preS s with
  | true =>
    have HP := Lib.hid (readW_pre (rs := rs) hs)
    go_enter Tryz.func74, Tryz.ntmps74
    go_wp2_with (fail)
    refine (isPrefix_any _ _ hz).mono ?_
    rintro e w1 ⟨rfl, rfl⟩
    rw [hs]
    go_wp2_with (fail)
    refine (begin_any s R base 1 rs w H.out hR hb hl).mono ?_
    rintro e w1 ⟨rfl, h1, hw1⟩
    obtain ⟨a', cap', d0, d1, l1, f1⟩ := h1.val hR
    have HN := Lib.hid (h1.place hR 2)
    clear c0 c1 l0 f0 d1 h1
    go_wp2
    go_ret
    exact ReadPost.yes HP.out HN.out.1 (hw1.trans HN.out.2)
  | false =>
    have HP := Lib.hid (readW_none1 (rs := rs) hs)
    go_enter Tryz.func74, Tryz.ntmps74
    go_wp2_with (go_at_call 117; refine (isPrefix_any _ _ hz).mono ?_; rintro e w1 ⟨rfl, rfl⟩; rw [hs])
    go_ret
    exact ReadPost.no HP.out (Wr.refl _ _ _)
set_option maxHeartbeats 1000000 in
theorem read_none2 (R base : Nat) (rs : List ORule) (s : ByteArray) (w : World) (h : RdI w R base 2 rs) (hR : R < base) (hl : rs.length ≤ 40000) (hs : (s.toList == [103, 114, 111, 117, 112]) = false) :
    Calls Tryz.prog 74 #[.pointer (some ⟨R, 0, none⟩), .string s] w (ReadPost R base 2 rs s w) := by
  obtain ⟨a, cap, c0, c1, l0, f0⟩ := h.val hR
  have HP := Lib.hid (readW_none2 (rs := rs) hs)
  clear h
  go_enter Tryz.func74, Tryz.ntmps74
  go_wp2
  go_ret
  exact ReadPost.no HP.out (Wr.refl _ _ _)
set_option maxHeartbeats 1000000 in
theorem read_none3 (R base : Nat) (rs : List ORule) (s : ByteArray) (w : World) (h : RdI w R base 3 rs) (hR : R < base) (hb : base ≤ w.heap.size) (hl : rs.length ≤ 40000) (hz : s.size ≤ 40000) (hs : personS s = false) :
    Calls Tryz.prog 74 #[.pointer (some ⟨R, 0, none⟩), .string s] w (ReadPost R base 3 rs s w) := by
  obtain ⟨a, cap, c0, c1, l0, f0⟩ := h.val hR
  have HP := Lib.hid (readW_none3 (rs := rs) hs)
  have H := Lib.hid h
  clear h
  go_enter Tryz.func74, Tryz.ntmps74
  go_wp2_with (fail)
  refine (isPerson_any _ hz _).mono ?_
  rintro e w1 ⟨rfl, hb1⟩
  rw [hs]
  obtain ⟨a', cap', d0, d1, l1, f1⟩ := (H.out.below hb1).val hR
  go_wp2
  go_ret
  exact ReadPost.no HP.out (Wr.of hb1 hb)
set_option maxHeartbeats 1000000 in
theorem read_semi (R base : Nat) (rs : List ORule) (s : ByteArray) (w : World) (h : RdI w R base 4 rs) (hR : R < base) (hb : base ≤ w.heap.size) (hl : rs.length ≤ 40000) (hz : s.size ≤ 40000) (hg : (s.toList == [103, 114, 111, 117, 112]) = false) (hp : personS s = false) :
    Calls Tryz.prog 74 #[.pointer (some ⟨R, 0, none⟩), .string s] w (ReadPost R base 4 rs s w) := by
  obtain ⟨a, cap, c0, c1, l0, f0⟩ := h.val hR
  have H := Lib.hid h
  clear h
  cases hs : (s.toList == [59]) with
  | true =>
    have HP := Lib.hid (readW_semi (rs := rs) hg hp hs)
    go_enter Tryz.func74, Tryz.ntmps74
    go_wp2_with (fail)
    refine (isPerson_any _ hz _).mono ?_
    rintro e w1 ⟨rfl, hb1⟩
    rw [hp]
    obtain ⟨a', cap', d0, d1, l1, f1⟩ := (H.out.below hb1).val hR
    have HN := Lib.hid ((H.out.below hb1).place hR 0)
    go_wp2
    go_ret
    exact ReadPost.yes HP.out HN.out.1 ((Wr.of hb1 hb).trans HN.out.2)
  | false =>
    have HP := Lib.hid (readW_none4 (rs := rs) hg hp hs)
    go_enter Tryz.func74, Tryz.ntmps74
    go_wp2_with (fail)
    refine (isPerson_any _ hz _).mono ?_
    rintro e w1 ⟨rfl, hb1⟩
    rw [hp]
    obtain ⟨a', cap', d0, d1, l1, f1⟩ := (H.out.below hb1).val hR
    go_wp2
    go_ret
    exact ReadPost.no HP.out (Wr.of hb1 hb)
end Go.Proofs.YtidkpnabdfiilaaGreatDoor

namespace Go.Proofs.YtidkpnabdfiilaaGreatDoor
open Go.RowKit

set_option maxRecDepth 100000 in
set_option maxHeartbeats 2000000 in
theorem read_group_two (R base : Nat) (ri : List ORule) (pre : ByteArray) (gs : List (List ByteArray)) (s : ByteArray) (w : World) (h : RdI w R base 2 (ri ++ [⟨pre, gs⟩])) (hR : R < base) (hb : base ≤ w.heap.size) (hl : ri.length ≤ 40000) (hlg : gs.length ≤ 40000)
    (hs : (s.toList == [103, 114, 111, 117, 112]) = true) :
    Calls Tryz.prog 74 #[.pointer (some ⟨R, 0, none⟩), .string s] w (ReadPost R base 2 (ri ++ [⟨pre, gs⟩]) s w) := by
  obtain ⟨ig0, hig, hzg0, hzg1, hzg2⟩ := info_parts infoStrs
  have HP := Lib.hid ((readW_group (p := 2) (rs := ri ++ [⟨pre, gs⟩]) (by omega) hs).trans (by rw [addGroup_snoc]))
  obtain ⟨rv, h0, h1⟩ := h
  rcases h1 with ⟨h1, _⟩ | ⟨ri', pre', gs', xs, gv, lv, he, hrow, hrd, hgo⟩
  · simp at h1
  obtain ⟨rfl, he2⟩ := List.append_inj' he rfl
  cases he2
  rw [List.length_append, List.length_singleton] at hrow
  obtain ⟨g, cap, rfl, hc1, hc2⟩ := owns_addr hrow (by omega)
  obtain ⟨ys, hgrow, hgrd⟩ := hgo.toT (fun k hk => hk) hrow
  have hlx : xs.length = ri.length * 2 := by have := hrow.1; simp at this; omega
  obtain ⟨cg, fg, lg⟩ := owns_cell hrow (j := ri.length * 2 + 1) (u := gv) (by rw [List.getElem?_append_right (by omega), hlx]; simp)
  obtain ⟨ga, gc, rfl⟩ := owns_val hgrow
  have c0 := h0.cell (i := 0) rfl
  have c1 := h0.cell (i := 1) rfl
  have l0 := h0.lt
  unfold maxLen at hc2
  have H0 := Lib.hid h0
  have H1 := Lib.hid hrow
  have H2 := Lib.hid hrd
  have H3 := Lib.hid hgrow
  have H4 := Lib.hid hgrd
  clear h0 hrow hrd hgrow hgrd hgo he hlx fg
  go_enter Tryz.func74, Tryz.ntmps74
  go_wp2_with (fail)
  have q1 : w.drew.cell? ⟨R, 1, none⟩ = some (.slice (some ⟨g, 0, none⟩) (ri.length + 1) cap) := c1
  have q2 : w.drew.cell? ⟨g, ri.length * 2 + 1, none⟩ = some (.slice ga gs.length gc) := cg
  have hi0 : (0 : Int) ≤ (ri.length : Int) := by omega
  have hi1 : (ri.length : Int) < (ri.length : Int) + 1 := by omega
  refine wp_region_noPanic (region_lexT (fun W => W.cell? ⟨R, 1, none⟩ = some (.slice (some ⟨g, 0, none⟩) (ri.length + 1) cap) ∧ W.cell? ⟨g, ri.length * 2 + 1, none⟩ = some (.slice ga gs.length gc))
    [true, true, true, true, true, true, true, true, true, true, true, true, true, false, false] mixedK (by kernel_rfl) (fun _ _ _ _ _ h => h) ⟨q1, q2⟩ (fun hHeld => ?_))
  have H0d : Hid (CBox w.drew R 121 #[.int .i64 2, .slice (some ⟨g, 0, none⟩) (ri.length + 1) cap]) := H0.out.below (qrefl w).drew
  have H1d := Lib.hid (owns_below H1.out (qrefl w).drew)
  have H2d := Lib.hid (H2.out.below (qrefl w).drew)
  have H3d := Lib.hid (owns_below H3.out (qrefl w).drew)
  have H4d := Lib.hid (H4.out.below (qrefl w).drew)
  have hbd : Below w.heap.size w w.drew := (qrefl w).drew
  have hld : base ≤ w.drew.heap.size := hb
  have lgd : g < w.drew.heap.size := lg
  have lRd : R < w.drew.heap.size := l0
  clear H0 H1 H2 H3 H4 c1 cg lg l0 q1 q2
  generalize hWD : w.drew = WD at *
  clear hWD
  iterate 13 (first | (refine lexT_skip (by rfl) ?_; (try simp only [Act.put, List.setIfInBounds_toArray, List.set_cons_zero, List.set_cons_succ])) | (refine lexT_take (v := ?_) (by rfl) ?_ ?_; rotate_left; (focus (intro wq hSw; (try dsimp only at hSw); go_simp; (try with_reducible rfl))); (try simp only [Act.put, List.setIfInBounds_toArray, List.set_cons_zero, List.set_cons_succ])))
  (refine lexT_do (by rfl) (fun K hK => ?_); go_simp)
  have c1e : (WD.alloc (.cells #[.slice none 0 0] 30)).cell? ⟨R, 1, none⟩ = some (.slice (some ⟨g, 0, none⟩) (ri.length + 1) cap) := ((qalloc WD _).cell (p := ⟨R, 1, none⟩) lRd).trans hHeld.1
  have c2e : (WD.alloc (.cells #[.slice none 0 0] 30)).cell? ⟨g, ri.length * 2 + 1, none⟩ = some (.slice ga gs.length gc) := ((qalloc WD _).cell (p := ⟨g, ri.length * 2 + 1, none⟩) lgd).trans hHeld.2
  refine hK.out _ _ ⟨c1e, c2e⟩ (fun hHeld1 => ?_)
  clear hK K hHeld c1e c2e
  (try simp only [Act.put, List.setIfInBounds_toArray, List.set_cons_zero, List.set_cons_succ])
  refine lexT_do (by rfl) (fun K hK => ?_)
  refine wp_append_own_at _ _ 23 rfl base 30 ig0 _ 1 24 Tryz.underlying23 hig hzg0 hzg1 hzg2 rfl (by decide) (.slice ga gs.length gc) gs.length ys rfl (H3d.out.alloc _) ⟨WD.heap.size, 0, none⟩ 1 1 [.slice none 0 0] rfl rfl (cell_one_new _ _ _) (by simp [Value.oneCell']) (by unfold maxLen; omega) (by omega) (by simp; omega) (fun v1 w1 hown1 hg1 hbk1 => ?_)
  obtain ⟨⟨e1, e2, e3⟩, hrd, hwr⟩ := RdI.group H0d.out H1d.out H2d.out H3d.out H4d.out hown1 hg1 (by simpa using hbk1) hld hR
  have e0 : w1.cell? ⟨R, 1, none⟩ = some (.slice (some ⟨g, 0, none⟩) (ri.length + 1) cap) := (H0d.out.mod (grown_mod hg1) (fun hm => by have := owns_block H3d.out (b := R) (by simpa [bl] using hm); omega)).cell (i := 1) rfl
  refine hK.out _ _ ⟨e0, e1⟩ (fun hHeld => ?_)
  obtain ⟨va', vc', rfl⟩ := owns_val hown1
  have HRD := Lib.hid hrd
  have HWR := Lib.hid hwr
  have HW0 : Hid (Wr R base w WD) := Wr.of hbd hb
  obtain ⟨a9, cap9, d0, d1, l1, f1⟩ := hrd.val hR
  have HN := Lib.hid (hrd.place hR 3)
  clear hK K hHeld1 hown1 hg1 hrd hwr hbk1 d1
  (try simp only [Act.put, List.setIfInBounds_toArray, List.set_cons_zero, List.set_cons_succ])
  refine lexT_end ?_
  go_wp2_with (fail)
  refine NoPanic.normal ?_
  go_wp2
  go_ret
  exact ReadPost.yes HP.out HN.out.1 (HW0.out.trans (HWR.out.trans HN.out.2))
set_option maxRecDepth 100000 in
set_option maxHeartbeats 2000000 in
theorem read_group_four (R base : Nat) (ri : List ORule) (pre : ByteArray) (gs : List (List ByteArray)) (s : ByteArray) (w : World) (h : RdI w R base 4 (ri ++ [⟨pre, gs⟩])) (hR : R < base) (hb : base ≤ w.heap.size) (hl : ri.length ≤ 40000) (hlg : gs.length ≤ 40000)
    (hs : (s.toList == [103, 114, 111, 117, 112]) = true) :
    Calls Tryz.prog 74 #[.pointer (some ⟨R, 0, none⟩), .string s] w (ReadPost R base 4 (ri ++ [⟨pre, gs⟩]) s w) := by
  obtain ⟨ig0, hig, hzg0, hzg1, hzg2⟩ := info_parts infoStrs
  have HP := Lib.hid ((readW_group (p := 4) (rs := ri ++ [⟨pre, gs⟩]) (by omega) hs).trans (by rw [addGroup_snoc]))
  obtain ⟨rv, h0, h1⟩ := h
  rcases h1 with ⟨h1, _⟩ | ⟨ri', pre', gs', xs, gv, lv, he, hrow, hrd, hgo⟩
  · simp at h1
  obtain ⟨rfl, he2⟩ := List.append_inj' he rfl
  cases he2
  rw [List.length_append, List.length_singleton] at hrow
  obtain ⟨g, cap, rfl, hc1, hc2⟩ := owns_addr hrow (by omega)
  obtain ⟨ys, hgrow, hgrd⟩ := hgo.toT (fun k hk => hk) hrow
  have hlx : xs.length = ri.length * 2 := by have := hrow.1; simp at this; omega
  obtain ⟨cg, fg, lg⟩ := owns_cell hrow (j := ri.length * 2 + 1) (u := gv) (by rw [List.getElem?_append_right (by omega), hlx]; simp)
  obtain ⟨ga, gc, rfl⟩ := owns_val hgrow
  have c0 := h0.cell (i := 0) rfl
  have c1 := h0.cell (i := 1) rfl
  have l0 := h0.lt
  unfold maxLen at hc2
  have H0 := Lib.hid h0
  have H1 := Lib.hid hrow
  have H2 := Lib.hid hrd
  have H3 := Lib.hid hgrow
  have H4 := Lib.hid hgrd
  clear h0 hrow hrd hgrow hgrd hgo he hlx fg
  go_enter Tryz.func74, Tryz.ntmps74
  go_wp2_with (fail)
  have q1 : w.drew.cell? ⟨R, 1, none⟩ = some (.slice (some ⟨g, 0, none⟩) (ri.length + 1) cap) := c1
  have q2 : w.drew.cell? ⟨g, ri.length * 2 + 1, none⟩ = some (.slice ga gs.length gc) := cg
  have hi0 : (0 : Int) ≤ (ri.length : Int) := by omega
  have hi1 : (ri.length : Int) < (ri.length : Int) + 1 := by omega
  refine wp_region_noPanic (region_lexT (fun W => W.cell? ⟨R, 1, none⟩ = some (.slice (some ⟨g, 0, none⟩) (ri.length + 1) cap) ∧ W.cell? ⟨g, ri.length * 2 + 1, none⟩ = some (.slice ga gs.length gc))
    [true, true, true, true, true, true, true, true, true, true, true, true, true, false, false] mixedK (by kernel_rfl) (fun _ _ _ _ _ h => h) ⟨q1, q2⟩ (fun hHeld => ?_))
  have H0d : Hid (CBox w.drew R 121 #[.int .i64 4, .slice (some ⟨g, 0, none⟩) (ri.length + 1) cap]) := H0.out.below (qrefl w).drew
  have H1d := Lib.hid (owns_below H1.out (qrefl w).drew)
  have H2d := Lib.hid (H2.out.below (qrefl w).drew)
  have H3d := Lib.hid (owns_below H3.out (qrefl w).drew)
  have H4d := Lib.hid (H4.out.below (qrefl w).drew)
  have hbd : Below w.heap.size w w.drew := (qrefl w).drew
  have hld : base ≤ w.drew.heap.size := hb
  have lgd : g < w.drew.heap.size := lg
  have lRd : R < w.drew.heap.size := l0
  clear H0 H1 H2 H3 H4 c1 cg lg l0 q1 q2
  generalize hWD : w.drew = WD at *
  clear hWD
  iterate 13 (first | (refine lexT_skip (by rfl) ?_; (try simp only [Act.put, List.setIfInBounds_toArray, List.set_cons_zero, List.set_cons_succ])) | (refine lexT_take (v := ?_) (by rfl) ?_ ?_; rotate_left; (focus (intro wq hSw; (try dsimp only at hSw); go_simp; (try with_reducible rfl))); (try simp only [Act.put, List.setIfInBounds_toArray, List.set_cons_zero, List.set_cons_succ])))
  (refine lexT_do (by rfl) (fun K hK => ?_); go_simp)
  have c1e : (WD.alloc (.cells #[.slice none 0 0] 30)).cell? ⟨R, 1, none⟩ = some (.slice (some ⟨g, 0, none⟩) (ri.length + 1) cap) := ((qalloc WD _).cell (p := ⟨R, 1, none⟩) lRd).trans hHeld.1
  have c2e : (WD.alloc (.cells #[.slice none 0 0] 30)).cell? ⟨g, ri.length * 2 + 1, none⟩ = some (.slice ga gs.length gc) := ((qalloc WD _).cell (p := ⟨g, ri.length * 2 + 1, none⟩) lgd).trans hHeld.2
  refine hK.out _ _ ⟨c1e, c2e⟩ (fun hHeld1 => ?_)
  clear hK K hHeld c1e c2e
  (try simp only [Act.put, List.setIfInBounds_toArray, List.set_cons_zero, List.set_cons_succ])
  refine lexT_do (by rfl) (fun K hK => ?_)
  refine wp_append_own_at _ _ 23 rfl base 30 ig0 _ 1 24 Tryz.underlying23 hig hzg0 hzg1 hzg2 rfl (by decide) (.slice ga gs.length gc) gs.length ys rfl (H3d.out.alloc _) ⟨WD.heap.size, 0, none⟩ 1 1 [.slice none 0 0] rfl rfl (cell_one_new _ _ _) (by simp [Value.oneCell']) (by unfold maxLen; omega) (by omega) (by simp; omega) (fun v1 w1 hown1 hg1 hbk1 => ?_)
  obtain ⟨⟨e1, e2, e3⟩, hrd, hwr⟩ := RdI.group H0d.out H1d.out H2d.out H3d.out H4d.out hown1 hg1 (by simpa using hbk1) hld hR
  have e0 : w1.cell? ⟨R, 1, none⟩ = some (.slice (some ⟨g, 0, none⟩) (ri.length + 1) cap) := (H0d.out.mod (grown_mod hg1) (fun hm => by have := owns_block H3d.out (b := R) (by simpa [bl] using hm); omega)).cell (i := 1) rfl
  refine hK.out _ _ ⟨e0, e1⟩ (fun hHeld => ?_)
  obtain ⟨va', vc', rfl⟩ := owns_val hown1
  have HRD := Lib.hid hrd
  have HWR := Lib.hid hwr
  have HW0 : Hid (Wr R base w WD) := Wr.of hbd hb
  obtain ⟨a9, cap9, d0, d1, l1, f1⟩ := hrd.val hR
  have HN := Lib.hid (hrd.place hR 3)
  clear hK K hHeld1 hown1 hg1 hrd hwr hbk1 d1
  (try simp only [Act.put, List.setIfInBounds_toArray, List.set_cons_zero, List.set_cons_succ])
  refine lexT_end ?_
  go_wp2_with (fail)
  refine NoPanic.normal ?_
  go_wp2
  go_ret
  exact ReadPost.yes HP.out HN.out.1 (HW0.out.trans (HWR.out.trans HN.out.2))
end Go.Proofs.YtidkpnabdfiilaaGreatDoor

namespace Go.Proofs.YtidkpnabdfiilaaGreatDoor
open Go.RowKit

set_option maxRecDepth 100000 in
set_option maxHeartbeats 2000000 in
theorem read_person_three (R base : Nat) (ri : List ORule) (pre : ByteArray) (gi : List (List ByteArray)) (gl : List ByteArray) (s : ByteArray) (w : World) (h : RdI w R base 3 (ri ++ [⟨pre, gi ++ [gl]⟩])) (hR : R < base) (hb : base ≤ w.heap.size) (hl : ri.length ≤ 40000) (hlg : gi.length ≤ 40000) (hll : gl.length ≤ 40000)
    (hz : s.size ≤ 40000) (hg : (s.toList == [103, 114, 111, 117, 112]) = false) (hs : personS s = true) :
    Calls Tryz.prog 74 #[.pointer (some ⟨R, 0, none⟩), .string s] w (ReadPost R base 3 (ri ++ [⟨pre, gi ++ [gl]⟩]) s w) := by
  obtain ⟨is0, his, hzs0, hzs1, hzs2⟩ := info_parts infoStr
  have HP := Lib.hid ((readW_person (p := 3) (rs := ri ++ [⟨pre, gi ++ [gl]⟩]) (by omega) (fun _ => hg) hs).trans (by rw [addPerson_snoc]))
  obtain ⟨a, cap, c0, c1, l0, f0⟩ := h.val hR
  have H := Lib.hid h
  clear h
  go_enter Tryz.func74, Tryz.ntmps74
  go_wp2_with (fail)
  refine (isPerson_any _ hz _).mono ?_
  rintro e W ⟨rfl, hb1⟩
  rw [hs]
  have HW1 : Hid (Wr R base w W) := Wr.of hb1 hb
  have hbW : base ≤ W.heap.size := Nat.le_trans hb hb1.size
  obtain ⟨rv, h0, h1⟩ := H.out.below hb1
  clear H c0 c1 l0 f0 hb1
  rcases h1 with ⟨h1, _⟩ | ⟨ri', pre', gs', xs, gv, lv, he, hrow, hrd, hgo⟩
  · simp at h1
  obtain ⟨rfl, he2⟩ := List.append_inj' he rfl
  cases he2
  rw [List.length_append, List.length_singleton] at hrow
  obtain ⟨g, cap, rfl, hc1, hc2⟩ := owns_addr hrow (by omega)
  rcases hgo with ⟨h1, _⟩ | ⟨gi', gl', ys, he', hgrow, hgrd, hlrow⟩
  · simp at h1
  obtain ⟨rfl, he2⟩ := List.append_inj' he' rfl
  cases he2
  rw [List.length_append, List.length_singleton] at hgrow
  obtain ⟨gg, gcap, rfl, hgc1, hgc2⟩ := owns_addr hgrow (by omega)
  have hlx : xs.length = ri.length * 2 := by have := hrow.1; simp at this; omega
  have hly : ys.length = gi.length := by have := hgrow.1; simp at this; omega
  obtain ⟨cg, -, lg⟩ := owns_cell hrow (j := ri.length * 2 + 1) (u := .slice (some ⟨gg, 0, none⟩) (gi.length + 1) gcap) (by rw [List.getElem?_append_right (by omega), hlx]; simp)
  obtain ⟨cl, -, lgg⟩ := owns_cell hgrow (j := gi.length) (u := lv) (by rw [List.getElem?_append_right (by omega), hly]; simp)
  obtain ⟨la, lc, rfl⟩ := owns_val hlrow
  have c0 := h0.cell (i := 0) rfl
  have c1 := h0.cell (i := 1) rfl
  have l0 := h0.lt
  unfold maxLen at hc2 hgc2
  have H0 := Lib.hid h0
  have H1 := Lib.hid hrow
  have H2 := Lib.hid hrd
  have H3 := Lib.hid hgrow
  have H4 := Lib.hid hgrd
  clear h0 hrow hrd hgrow hgrd he hlx hly he'
  have hi0 : (0 : Int) ≤ (ri.length : Int) := by omega
  have hi1 : (ri.length : Int) < (ri.length : Int) + 1 := by omega
  have hj0 : (0 : Int) ≤ (gi.length : Int) := by omega
  have hj1 : (gi.length : Int) < (gi.length : Int) + 1 := by omega
  go_wp2_with (at_builtin; refine wpList_append_own_at _ rfl _ _ 30 rfl base 9 is0 _ 1 16 Tryz.underlying30 his hzs0 hzs1 hzs2 rfl (by decide) (.slice la gl.length lc) gl.length _ rfl (hlrow.alloc _) ⟨W.heap.size, 0, none⟩ 1 1 [.string s] rfl rfl (cell_one_new _ _ _) (by simp [Value.oneCell']) (by unfold maxLen; omega) (by omega) (by simp; omega) ?_)
  intro v1 w1 hown1 hg1 _ hbk1
  obtain ⟨⟨e1, e2, e3⟩, hrd, hwr⟩ := RdI.person H0.out H1.out H2.out H3.out H4.out hlrow hown1 hg1 (by simpa using hbk1) hbW hR
  obtain ⟨va', vc', rfl⟩ := owns_val hown1
  have HWR := Lib.hid hwr
  obtain ⟨a9, cap9, d0, d1, l1, f1⟩ := hrd.val hR
  have HN := Lib.hid (hrd.place hR 4)
  clear hown1 hg1 hrd hwr hbk1 d1 hlrow
  go_wp2
  go_ret
  exact ReadPost.yes HP.out HN.out.1 (HW1.out.trans (HWR.out.trans HN.out.2))
set_option maxRecDepth 100000 in
set_option maxHeartbeats 2000000 in
theorem read_person_four (R base : Nat) (ri : List ORule) (pre : ByteArray) (gi : List (List ByteArray)) (gl : List ByteArray) (s : ByteArray) (w : World) (h : RdI w R base 4 (ri ++ [⟨pre, gi ++ [gl]⟩])) (hR : R < base) (hb : base ≤ w.heap.size) (hl : ri.length ≤ 40000) (hlg : gi.length ≤ 40000) (hll : gl.length ≤ 40000)
    (hz : s.size ≤ 40000) (hg : (s.toList == [103, 114, 111, 117, 112]) = false) (hs : personS s = true) :
    Calls Tryz.prog 74 #[.pointer (some ⟨R, 0, none⟩), .string s] w (ReadPost R base 4 (ri ++ [⟨pre, gi ++ [gl]⟩]) s w) := by
  obtain ⟨is0, his, hzs0, hzs1, hzs2⟩ := info_parts infoStr
  have HP := Lib.hid ((readW_person (p := 4) (rs := ri ++ [⟨pre, gi ++ [gl]⟩]) (by omega) (fun _ => hg) hs).trans (by rw [addPerson_snoc]))
  obtain ⟨a, cap, c0, c1, l0, f0⟩ := h.val hR
  have H := Lib.hid h
  clear h
  go_enter Tryz.func74, Tryz.ntmps74
  go_wp2_with (fail)
  refine (isPerson_any _ hz _).mono ?_
  rintro e W ⟨rfl, hb1⟩
  rw [hs]
  have HW1 : Hid (Wr R base w W) := Wr.of hb1 hb
  have hbW : base ≤ W.heap.size := Nat.le_trans hb hb1.size
  obtain ⟨rv, h0, h1⟩ := H.out.below hb1
  clear H c0 c1 l0 f0 hb1
  rcases h1 with ⟨h1, _⟩ | ⟨ri', pre', gs', xs, gv, lv, he, hrow, hrd, hgo⟩
  · simp at h1
  obtain ⟨rfl, he2⟩ := List.append_inj' he rfl
  cases he2
  rw [List.length_append, List.length_singleton] at hrow
  obtain ⟨g, cap, rfl, hc1, hc2⟩ := owns_addr hrow (by omega)
  rcases hgo with ⟨h1, _⟩ | ⟨gi', gl', ys, he', hgrow, hgrd, hlrow⟩
  · simp at h1
  obtain ⟨rfl, he2⟩ := List.append_inj' he' rfl
  cases he2
  rw [List.length_append, List.length_singleton] at hgrow
  obtain ⟨gg, gcap, rfl, hgc1, hgc2⟩ := owns_addr hgrow (by omega)
  have hlx : xs.length = ri.length * 2 := by have := hrow.1; simp at this; omega
  have hly : ys.length = gi.length := by have := hgrow.1; simp at this; omega
  obtain ⟨cg, -, lg⟩ := owns_cell hrow (j := ri.length * 2 + 1) (u := .slice (some ⟨gg, 0, none⟩) (gi.length + 1) gcap) (by rw [List.getElem?_append_right (by omega), hlx]; simp)
  obtain ⟨cl, -, lgg⟩ := owns_cell hgrow (j := gi.length) (u := lv) (by rw [List.getElem?_append_right (by omega), hly]; simp)
  obtain ⟨la, lc, rfl⟩ := owns_val hlrow
  have c0 := h0.cell (i := 0) rfl
  have c1 := h0.cell (i := 1) rfl
  have l0 := h0.lt
  unfold maxLen at hc2 hgc2
  have H0 := Lib.hid h0
  have H1 := Lib.hid hrow
  have H2 := Lib.hid hrd
  have H3 := Lib.hid hgrow
  have H4 := Lib.hid hgrd
  clear h0 hrow hrd hgrow hgrd he hlx hly he'
  have hi0 : (0 : Int) ≤ (ri.length : Int) := by omega
  have hi1 : (ri.length : Int) < (ri.length : Int) + 1 := by omega
  have hj0 : (0 : Int) ≤ (gi.length : Int) := by omega
  have hj1 : (gi.length : Int) < (gi.length : Int) + 1 := by omega
  go_wp2_with (at_builtin; refine wpList_append_own_at _ rfl _ _ 30 rfl base 9 is0 _ 1 16 Tryz.underlying30 his hzs0 hzs1 hzs2 rfl (by decide) (.slice la gl.length lc) gl.length _ rfl (hlrow.alloc _) ⟨W.heap.size, 0, none⟩ 1 1 [.string s] rfl rfl (cell_one_new _ _ _) (by simp [Value.oneCell']) (by unfold maxLen; omega) (by omega) (by simp; omega) ?_)
  intro v1 w1 hown1 hg1 _ hbk1
  obtain ⟨⟨e1, e2, e3⟩, hrd, hwr⟩ := RdI.person H0.out H1.out H2.out H3.out H4.out hlrow hown1 hg1 (by simpa using hbk1) hbW hR
  obtain ⟨va', vc', rfl⟩ := owns_val hown1
  have HWR := Lib.hid hwr
  obtain ⟨a9, cap9, d0, d1, l1, f1⟩ := hrd.val hR
  have HN := Lib.hid (hrd.place hR 4)
  clear hown1 hg1 hrd hwr hbk1 d1 hlrow
  go_wp2
  go_ret
  exact ReadPost.yes HP.out HN.out.1 (HW1.out.trans (HWR.out.trans HN.out.2))
/-- A word is read. -/
theorem read_any (R base p K : Nat) (rs : List ORule) (s : ByteArray) (w : World) (h : RdI w R base p rs) (hR : R < base) (hb : base ≤ w.heap.size) (ho : OkP p rs) (hB : Bnd K rs) (hK : K ≤ 40000) (hz : s.size ≤ 40000) :
    Calls Tryz.prog 74 #[.pointer (some ⟨R, 0, none⟩), .string s] w (ReadPost R base p rs s w) := by
  have hl : rs.length ≤ 40000 := by have := hB.len; omega
  obtain ⟨hp, h2, h34⟩ := ho
  have hcases : p = 0 ∨ p = 1 ∨ p = 2 ∨ p = 3 ∨ p = 4 := by omega
  rcases hcases with rfl | rfl | rfl | rfl | rfl
  · cases hs1 : (s.toList == [97, 108, 108]) with
    | true => exact read_all R base rs s w h hR hb hl hs1
    | false =>
      cases hs2 : (s.toList == [112, 114, 101, 102, 105, 120]) with
      | true => exact read_prefix R base rs s w h hR hl hs1 hs2
      | false => exact read_none0 R base rs s w h hR hl hs1 hs2
  · exact read_pre R base rs s w h hR hb hl hz
  · obtain ⟨ri, pre, gs, rfl⟩ := h2 rfl
    obtain ⟨b1, b2, b3⟩ := hB.each ⟨pre, gs⟩ (by simp)
    simp at hl b2
    cases hs1 : (s.toList == [103, 114, 111, 117, 112]) with
    | true => exact read_group_two R base ri pre gs s w h hR hb (by omega) (by omega) hs1
    | false => exact read_none2 R base _ s w h hR (by simp; omega) hs1
  · obtain ⟨ri, pre, gi, gl, rfl⟩ := h34 (.inl rfl)
    obtain ⟨b1, b2, b3⟩ := hB.each ⟨pre, gi ++ [gl]⟩ (by simp)
    have b4 := (b3 gl (by simp)).1
    simp at hl b2
    cases hs1 : personS s with
    | true =>
      have hg : (s.toList == [103, 114, 111, 117, 112]) = false := by
        cases hq : (s.toList == [103, 114, 111, 117, 112]) with
        | false => rfl
        | true => rw [personS_group hq] at hs1; cases hs1
      exact read_person_three R base ri pre gi gl s w h hR hb (by omega) (by omega) (by omega) hz hg hs1
    | false => exact read_none3 R base _ s w h hR hb (by simp; omega) hz hs1
  · obtain ⟨ri, pre, gi, gl, rfl⟩ := h34 (.inr rfl)
    obtain ⟨b1, b2, b3⟩ := hB.each ⟨pre, gi ++ [gl]⟩ (by simp)
    have b4 := (b3 gl (by simp)).1
    simp at hl b2
    cases hg : (s.toList == [103, 114, 111, 117, 112]) with
    | true => exact read_group_four R base ri pre (gi ++ [gl]) s w h hR hb (by omega) (by simp; omega) hg
    | false =>
      cases hs1 : personS s with
      | true => exact read_person_four R base ri pre gi gl s w h hR hb (by omega) (by omega) (by omega) hz hg hs1
      | false => exact read_semi R base _ s w h hR hb (by simp; omega) hz hg hs1
/-- The place and the bounds behind a word that fits. -/
theorem readW_keeps {p p' K : Nat} {rs rs' : List ORule} {s : ByteArray} (h : readW p rs s = some (p', rs')) (ho : OkP p rs) (hB : Bnd K rs) (hz : s.size ≤ 40000) : OkP p' rs' ∧ Bnd (K + 1) rs' := by
  unfold readW at h
  split at h
  · cases h; exact ⟨⟨by omega, fun _ => ⟨rs, _, _, rfl⟩, by omega⟩, hB.rule (Nat.zero_le _)⟩
  split at h
  · cases h; exact ⟨⟨by omega, by omega, by omega⟩, hB.more⟩
  split at h
  · cases h; exact ⟨⟨by omega, fun _ => ⟨rs, _, _, rfl⟩, by omega⟩, hB.rule hz⟩
  split at h
  · rename_i hc
    cases h
    have : ∃ ri pre gs, rs = ri ++ [⟨pre, gs⟩] := by
      rcases hc.1 with e | e
      · exact ho.2.1 e
      · obtain ⟨ri, pre, gi, gl, e⟩ := ho.2.2 (.inr e); exact ⟨ri, pre, gi ++ [gl], e⟩
    obtain ⟨ri, pre, gs, rfl⟩ := this
    rw [addGroup_snoc]
    exact ⟨⟨by omega, by omega, fun _ => ⟨ri, pre, gs, [], rfl⟩⟩, hB.group⟩
  split at h
  · rename_i hc
    cases h
    obtain ⟨ri, pre, gi, gl, rfl⟩ := ho.2.2 hc.1
    rw [addPerson_snoc]
    exact ⟨⟨by omega, by omega, fun _ => ⟨ri, pre, gi, _, rfl⟩⟩, hB.person hz⟩
  split at h
  · cases h; exact ⟨⟨by omega, by omega, by omega⟩, hB.more⟩
  · cases h
end Go.Proofs.YtidkpnabdfiilaaGreatDoor
