/- owners.Parse. -/
import Derived.Test.YtidkpnabdfiilaaGreatDoorQ13
import Derived.Test.YtidkpnabdfiilaaGreatDoorWdC
import Derived.BigRegionIn
namespace Go.Proofs.YtidkpnabdfiilaaGreatDoor
open Go.RowKit Go.Shelf
attribute [local go_sem] Oper.semAt_some

theorem alloc_at (w : World) (o : Obj) {k : Nat} (h : w.heap.size = k) : (w.alloc o).heap[k]? = some o := by rw [← h]; exact World.alloc_heap_new w o
theorem alloc_old {w : World} {o x : Obj} {k : Nat} (h : w.heap[k]? = some x) : (w.alloc o).heap[k]? = some x := (Below.heap_alloc w o k (Array.getElem?_eq_some_iff.1 h).1).trans h
theorem keeps_of_below {B : Nat} {W W' : World} (hb : Below W.heap.size W W') : KeepsFrom B W W' :=
  ⟨hb.size, fun k _ _ hk _ => (hb.block k (Array.getElem?_eq_some_iff.1 hk).1).trans hk⟩
theorem keeps_drew {B : Nat} {W W' : World} (h : KeepsFrom B W W') : KeepsFrom B W W'.drew := ⟨h.1, h.2⟩
theorem Res3.below3 {w W : World} {h : Nat} (hb : Below h w W) (rv : Value) (i e : Int) : Below h w (((W.setCell ⟨h, 0, none⟩ rv).setCell ⟨h + 1, 0, none⟩ (.int .i64 i)).setCell ⟨h + 2, 0, none⟩ (.int .i64 e)) :=
  ((hb.setCell (p := ⟨h, 0, none⟩) (Nat.le_refl _) _).setCell (p := ⟨h + 1, 0, none⟩) (by show h ≤ h + 1; omega) _).setCell (p := ⟨h + 2, 0, none⟩) (by show h ≤ h + 2; omega) _
/-- The results' cells. -/
def Res3 (W : World) (h : Nat) (rv : Value) (i e : Int) : Prop := CBox W h 71 #[rv] ∧ CBox W (h + 1) 3 #[.int .i64 i] ∧ CBox W (h + 2) 27 #[.int .i64 e]
theorem Res3.own {w w' : World} {row : Option Nat} (hg : w.grownBy w' row) (hr : NoCells w row) {h : Nat} {rv : Value} {i e : Int} (hh : Res3 w h rv i e) : Res3 w' h rv i e := ⟨hh.1.own hg hr, hh.2.1.own hg hr, hh.2.2.own hg hr⟩
theorem Res3.wr {R base : Nat} {w w' : World} (hw : Wr R base w w') {h : Nat} {rv : Value} {i e : Int} (hh : Res3 w h rv i e) (h1 : h + 2 < base) (h2 : h + 2 < R) : Res3 w' h rv i e :=
  ⟨hw.box hh.1 (by omega) (by omega), hw.box hh.2.1 (by omega) (by omega), hw.box hh.2.2 (by omega) (by omega)⟩
theorem Res3.below {w w' : World} (hb : Below w.heap.size w w') {h : Nat} {rv : Value} {i e : Int} (hh : Res3 w h rv i e) : Res3 w' h rv i e := ⟨hh.1.below hb, hh.2.1.below hb, hh.2.2.below hb⟩
theorem Res3.set {w : World} {h : Nat} {rv : Value} {i e : Int} (hh : Res3 w h rv i e) (rv' : Value) (i' e' : Int) : Res3 (((w.setCell ⟨h, 0, none⟩ rv').setCell ⟨h + 1, 0, none⟩ (.int .i64 i')).setCell ⟨h + 2, 0, none⟩ (.int .i64 e')) h rv' i' e' := by
  have m0 : Mod [h] w (w.setCell ⟨h, 0, none⟩ rv') := (Mod.refl _ _).setCell (by simp) _
  have a0 := hh.1.set 0 rv'
  have a1 := hh.2.1.mod m0 (by simp)
  have a2 := hh.2.2.mod m0 (by simp)
  generalize w.setCell ⟨h, 0, none⟩ rv' = w1 at *
  have m1 : Mod [h + 1] w1 (w1.setCell ⟨h + 1, 0, none⟩ (.int .i64 i')) := (Mod.refl _ _).setCell (by simp) _
  have b0 := a0.mod m1 (by simp)
  have b1 := a1.set 0 (.int .i64 i')
  have b2 := a2.mod m1 (by simp)
  generalize w1.setCell ⟨h + 1, 0, none⟩ (.int .i64 i') = w2 at *
  have m2 : Mod [h + 2] w2 (w2.setCell ⟨h + 2, 0, none⟩ (.int .i64 e')) := (Mod.refl _ _).setCell (by simp) _
  exact ⟨b0.mod m2 (by simp), b1.mod m2 (by simp), b2.set 0 _⟩
theorem readAll_at {p : Nat} {rs : List ORule} {ws : OWords} {k : Nat} {x : ByteArray × Nat} (hx : ws[k]? = some x) : readAll p rs (ws.drop k) = match readW p rs x.1 with
    | some (p', rs') => readAll p' rs' (ws.drop (k + 1))
    | none => .error x.2 := by
  rw [drop_at hx, readAll]
  rfl
theorem oparse_bad {s : ByteArray} {i : Nat} (h : readAll 0 [] (wordsOf s) = .error i) : oparse s = ([], (i : Int), 3) := by unfold oparse; rw [h]
theorem oparse_short {s : ByteArray} {p : Nat} {rs : List ORule} (h : readAll 0 [] (wordsOf s) = .ok (p, rs)) (hp : p ≠ 0) : oparse s = ([], (s.size : Int), 3) := by unfold oparse; rw [h]; simp only []; rw [if_neg hp]
theorem oparse_err {s : ByteArray} {rs : List ORule} (h : readAll 0 [] (wordsOf s) = .ok (0, rs)) (hp : ocheckErr rs ≠ 0) : oparse s = ([], 0, ocheckErr rs) := by unfold oparse; rw [h]; simp only []; rw [if_pos trivial, if_neg hp]
theorem oparse_ok {s : ByteArray} {rs : List ORule} (h : readAll 0 [] (wordsOf s) = .ok (0, rs)) (hp : ocheckErr rs = 0) : oparse s = (rs, 0, 0) := by unfold oparse; rw [h]; simp only []; rw [if_pos trivial, if_pos hp]

/-- As ParsePost; what is returned lies apart from the blocks of X. -/
def ParsePostX (X : List Nat) (x : List ORule × Int × Int) (w : World) (e : Ending) (w' : World) : Prop := ∃ lv, e = .returned (.tuple #[lv, .int .i64 x.2.1, .int .i64 x.2.2]) ∧ Reads w' X (rulesT x.1) lv ∧ Below w.heap.size w w'
set_option maxRecDepth 100000 in
set_option maxHeartbeats 2000000 in
theorem Parse_anyX (s : ByteArray) (hs : s.size ≤ 40000) (w : World) : Calls Tryz.prog 45 #[.string s] w (ParsePostX (List.range w.heap.size) (oparse s) w) := by
  have hd : decide (65536 < (s.size : Int)) = false := by simp; omega
  have hsm := words_small s hs
  have hwl := wordsOf_length s
  refine (callsIn_wide (n := 5)).1 ?_
  refine callsIn_of_wp_marks Tryz.func45 rfl trivial ?_ rfl
  simp only [Tryz.ntmps45, List.size_toArray, List.length_cons, List.length_nil, Nat.reduceAdd, Nat.reduceSub, Array.replicate_succ, Array.replicate_zero, List.push_toArray, List.append_toArray, List.nil_append, List.cons_append]
  gi_wp2_with (refine ⟨trivial, ?_⟩; gi_at_call 73; refine (callsIn_wide.2 (words_any _ _)).mono ?_; rintro e w' ⟨rfl, rfl⟩)
  generalize hW : (((((w.alloc (.cells #[.slice none 0 0] 71)).alloc (.cells #[.int .i64 0] 3)).alloc (.cells #[.int .i64 0] 27)).alloc (.cells #[.int .i64 0, .slice none 0 0] 121)).alloc (.cells #[.string s] 9)).alloc (.cells #[.func (.func 114) #[] #[]] 164) = W0
  have hsz : W0.heap.size = w.heap.size + 6 := by rw [← hW]; simp
  have hbx : Res3 W0 w.heap.size (.slice none 0 0) 0 0 ∧ CBox W0 (w.heap.size + 3) 121 #[.int .i64 0, .slice none 0 0] ∧ CBox W0 (w.heap.size + 4) 9 #[.string s] ∧ CBox W0 (w.heap.size + 5) 164 #[.func (.func 114) #[] #[]] := by
    rw [← hW]
    refine ⟨⟨?_, ?_, ?_⟩, ?_, ?_, ?_⟩ <;> unfold CBox <;> repeat (first | exact alloc_at _ _ (by simp) | refine alloc_old ?_)
  have hbW : Below w.heap.size w W0 := by
    rw [← hW]; exact qtrans (qtrans (qtrans (qtrans (qtrans (qalloc _ _) (qalloc _ _)) (qalloc _ _)) (qalloc _ _)) (qalloc _ _)) (qalloc _ _)
  clear hW
  obtain ⟨hres0, hR0, hB4, hB5⟩ := hbx
  have k4 := hB4.cell (i := 0) rfl
  have k5 := hB5.cell (i := 0) rfl
  have HSZ := Lib.hid hsz
  have hsz' : w.heap.size + 6 ≤ W0.heap.size := by omega
  have hsz'' : W0.heap.size ≤ w.heap.size + 6 := by omega
  clear hsz
  refine wp_iterK rfl (by omega) (gf := 115) (lb := #[.pointer (some ⟨w.heap.size + 4, 0, none⟩), .pointer (some ⟨w.heap.size + 5, 0, none⟩)]) rfl trivial (enters_of Tryz.func115 (by kernel_rfl) rfl)
    (words2_iter s hs W0 (w.heap.size + 4) (w.heap.size + 5) k4 k5) (fun a b c h k => ⟨k.1.trans h.1, k.2.trans h.2⟩) (fun W o o' _ _ _ => ⟨World.putObj_heap_other (by omega), World.putObj_heap_other (by omega)⟩) (qrefl _)
    (fun k hk => by obtain ⟨c, _, e⟩ := wordArgs_get hk; rw [e]; rfl)
    (fun k W => ∃ p rs, (Hid (RdI W (w.heap.size + 3) W0.heap.size p rs) ∧ Res3 W w.heap.size (.slice none 0 0) 0 0) ∧ (Hid (OkP p rs) ∧ Hid (Bnd k rs) ∧ Hid (readAll 0 [] (wordsOf s) = readAll p rs ((wordsOf s).drop k))) ∧ Below w.heap.size w W ∧ W0.heap.size ≤ W.heap.size)
    (fun c _ W => c = .ret ∧ ∃ i : Nat, Hid (oparse s = ([], (i : Int), 3)) ∧ Res3 W w.heap.size (.slice none 0 0) i 3 ∧ Below w.heap.size w W)
    ?own ?ownx
    ?ab ?ia ?ixa ⟨0, [], ⟨⟨_, hR0, .inl ⟨rfl, rfl⟩⟩, hres0⟩, ⟨⟨by omega, by omega, by omega⟩, ⟨Nat.zero_le _, fun r hr => by cases hr⟩, rfl⟩, hbW, Nat.le_refl _⟩
    (fun k a' W => ∃ (B : Nat) (x : ByteArray × Nat), (wordsOf s)[k]? = some x ∧ W0.heap.size ≤ B ∧ CBox W B 126 #[.string x.1, .int .i64 x.2] ∧ a' = { tmps := #[.string s, undef, .pointer (some ⟨w.heap.size, 0, none⟩), .pointer (some ⟨w.heap.size + 1, 0, none⟩), .pointer (some ⟨w.heap.size + 1 + 1, 0, none⟩), .pointer (some ⟨w.heap.size + 1 + 1 + 1, 0, none⟩), .pointer (some ⟨B, 0, none⟩), undef, .string s, .int .i64 s.size, .bool false, .string s, .func (.func 115) #[] #[.pointer (some ⟨w.heap.size + 1 + 1 + 1 + 1, 0, none⟩), .pointer (some ⟨w.heap.size + 1 + 1 + 1 + 1 + 1, 0, none⟩)], .agg #[.string x.1, .int .i64 x.2], undef, undef, undef, undef, undef, undef, undef, undef, undef, undef, undef, undef, undef, undef, undef, undef, undef, undef, undef], defers := [] })
    ?axo ?assign ?body ?done ?stop
  case own =>
    rintro k A A' row ⟨p, rs, ⟨h1, h2⟩, h3, h4, h5⟩ hg hr
    have hn : NoCells A row := fun r e => (hr r e).2
    exact ⟨p, rs, ⟨RdI.own hg hn h1.out, h2.own hg hn⟩, h3, h4.grown hg h4.size (fun r e => by have := (hr r e).1; omega), Nat.le_trans h5 hg.size⟩
  case ownx =>
    rintro c k A A' row ⟨h0, i, h1, h2, h3⟩ hg hr
    exact ⟨h0, i, h1, h2.own hg (fun r e => (hr r e).2), h3.grown hg h3.size (fun r e => by have := (hr r e).1; omega)⟩
  case ab =>
    rintro A A' ⟨n, rfl⟩ k o hk ho _
    exact ho
  case ia =>
    rintro k A A' ⟨p, rs, ⟨h1, h2⟩, h3, h4, h5⟩ ⟨n, rfl⟩
    have hb := below_drewN (qrefl A) n
    exact ⟨p, rs, ⟨h1.out.below hb, h2.below hb⟩, h3, below_drewN h4 n, h5⟩
  case ixa =>
    rintro c k A A' ⟨h0, i, h1, h2, h3⟩ ⟨n, rfl⟩
    exact ⟨h0, i, h1, h2.below (below_drewN (qrefl A) n), below_drewN h3 n⟩
  case axo =>
    rintro k a' _ A A' row ⟨B, x, h1, h2, h3, h4⟩ hg hr
    exact ⟨B, x, h1, h2, h3.own hg (fun r e => (hr r e).2), h4⟩
  case assign =>
    intro l' k hk W K hi hK
    obtain ⟨x, hx, e⟩ := wordArgs_get hk
    rw [e]
    simp only [wordArg]
    obtain ⟨p, rs, ⟨h1, h2⟩, h3, h4, h5⟩ := hi
    have HX := Lib.hid hx
    clear hx e
    gi_wp2
    have hA := qalloc W (.cells #[.string x.1, .int .i64 x.2] 126)
    exact hK _ _ (keeps_of_below hA) ⟨hA.block _ (by omega), hA.block _ (by omega)⟩ ⟨p, rs, ⟨h1.out.below hA, h2.below hA⟩, h3, qtrans h4 hA, Nat.le_trans h5 hA.size⟩ ⟨W.heap.size, x, HX.out, h5, CBox.new _ _ _, rfl⟩
  case body =>
    rintro l' k hk a' W ⟨p, rs, ⟨HRD, hres⟩, ⟨HOK, HBN, HRA⟩, hbel, hbz⟩ ⟨B, x, hx, hBB, hB6, rfl⟩
    have hkl : k < (wordsOf s).length := (List.getElem?_eq_some_iff.1 hx).1
    have hxz : x.1.size ≤ 40000 := (hsm.each x (List.mem_of_getElem? hx)).1
    have HRA2 := Lib.hid (HRA.out.trans (readAll_at hx))
    have HB6 := Lib.hid hB6
    have c60 := hB6.cell (i := 0) rfl
    have l6 := hB6.lt
    have HRES := Lib.hid hres
    have HC := Lib.hid (read_any (w.heap.size + 3) W0.heap.size p k rs x.1 W HRD.out (by omega) hbz HOK.out HBN.out (by omega) hxz)
    clear hx hB6 HRA hres
    cases hr : readW p rs x.1 with
    | some q =>
      obtain ⟨p', rs'⟩ := q
      have HPO : Hid (∀ e w', ReadPost (w.heap.size + 3) W0.heap.size p rs x.1 W e w' → e = .returned (.bool true) ∧ RdI w' (w.heap.size + 3) W0.heap.size p' rs' ∧ Wr (w.heap.size + 3) W0.heap.size W w') := fun e w' h => by
        unfold ReadPost at h; rw [hr] at h; exact h
      have HKP := Lib.hid (readW_keeps hr HOK.out HBN.out hxz)
      have HRA3 : Hid (readAll 0 [] (wordsOf s) = readAll p' rs' ((wordsOf s).drop (k + 1))) := by show _ = _; rw [HRA2.out, hr]
      clear hr
      gi_wp2_with (refine ⟨trivial, ?_⟩; gi_at_call 74; refine (CallsIn.inRound l' (callsIn_wide.2 HC.out)).mono ?_; intro e w1 hp; obtain ⟨rfl, h1, h2⟩ := HPO.out e w1 hp; clear hp)
      exact ⟨h2.keeps, ⟨h2.low _ (by omega) (by omega), h2.low _ (by omega) (by omega)⟩, p', rs', ⟨h1, HRES.out.wr h2 (by omega) (by omega)⟩, ⟨HKP.out.1, HKP.out.2, HRA3⟩, hbel.trans (h2.upto (by omega) (by omega)), Nat.le_trans hbz h2.size⟩
    | none =>
      have HPO : Hid (∀ e w', ReadPost (w.heap.size + 3) W0.heap.size p rs x.1 W e w' → e = .returned (.bool false) ∧ Wr (w.heap.size + 3) W0.heap.size W w') := fun e w' h => by
        unfold ReadPost at h; rw [hr] at h; exact h
      have HO : Hid (oparse s = ([], (x.2 : Int), 3)) := oparse_bad (by rw [HRA2.out, hr])
      clear hr
      gi_wp2_with (refine ⟨trivial, ?_⟩; gi_at_call 74; refine (CallsIn.inRound l' (callsIn_wide.2 HC.out)).mono ?_; intro e w1 hp; obtain ⟨rfl, h2⟩ := HPO.out e w1 hp; clear hp)
      have hB6' : CBox w1 B 126 #[.string x.1, .int .i64 x.2] := h2.other B _ _ _ HB6.out (by unfold RowTy; decide) (by omega)
      have hres1 := HRES.out.wr h2 (by omega) (by omega)
      have g1 := hB6'.cell (i := 1) rfl
      have g6 := hB6'.lt
      have r0 := hres1.1.cell (i := 0) rfl
      have r1 := hres1.2.1.cell (i := 0) rfl
      have r2 := hres1.2.2.cell (i := 0) rfl
      have s0 := hres1.1.frozen 0
      have s1 := hres1.2.1.frozen 0
      have s2 := hres1.2.2.frozen 0
      have z2 := hres1.2.2.lt
      have HR1 := Lib.hid hres1
      clear hres1 hB6' c60
      gi_wp2
      gi_region
      all_goals
        gi_wp2
        have hset := HR1.out.set (.slice none 0 0) (x.2 : Int) 3
        have hbl := Res3.below3 (hbel.trans (h2.upto (B := w.heap.size) (by omega) (by omega))) (.slice none 0 0) (x.2 : Int) 3
        refine ⟨keeps_drew (h2.keeps.trans ((((KeepsOthers.setCell _ _ _).from _).trans ((KeepsOthers.setCell _ _ _).from _)).trans ((KeepsOthers.setCell _ _ _).from _))), rfl, x.2, HO, hset.below (qrefl _).drew, hbl.drew⟩
  case done =>
    rintro D W hD ⟨p, rs, ⟨HRD, hres⟩, ⟨HOK, HBN, HRA⟩, hbel, hbz⟩ hK
    have HRA2 : Hid (readAll 0 [] (wordsOf s) = .ok (p, rs)) := by
      show _ = _
      rw [HRA.out, wordArgs_len, List.drop_length]; rfl
    have hkl : (wordArgs s).length ≤ 40000 := by rw [wordArgs_len]; omega
    obtain ⟨rv, hbox, hrd⟩ := HRD.out.rules
    obtain ⟨ra, rc, rfl, -, -⟩ := rules_val hrd
    have q0 := hbox.cell (i := 0) rfl
    have q1 := hbox.cell (i := 1) rfl
    have r0 := hres.1.cell (i := 0) rfl
    have r1 := hres.2.1.cell (i := 0) rfl
    have r2 := hres.2.2.cell (i := 0) rfl
    have s0 := hres.1.frozen 0
    have s1 := hres.2.1.frozen 0
    have s2 := hres.2.2.frozen 0
    have z2 := hres.2.2.lt
    have HRS := Lib.hid hres
    have HBOX := Lib.hid hbox
    have HRR := Lib.hid hrd
    clear hbox hrd HRA hres
    by_cases hp : p = 0
    · subst hp
      have hqz : ((0 : Nat) : Int) = 0 := rfl
      rw [hqz] at q0
      clear hqz
      have HCK := Lib.hid (check_any _ rs W HRR.out.free (HBN.out.small hkl))
      generalize hq : ocheckErr rs = q at *
      by_cases hc : q = 0
      · have hcn : (q != 0) = false := by simp [hc]
        have HO := Lib.hid (oparse_ok HRA2.out (hq.trans hc))
        clear hq hc
        gi_wp2_with (refine ⟨trivial, ?_⟩; gi_at_call 75; refine (callsIn_wide.2 HCK.out).mono ?_; rintro e w2 ⟨rfl, hb2⟩; have q1' := (HBOX.out.below hb2).cell (i := 1) rfl; have z1' := (HBOX.out.below hb2).lt; have r0' := (HRS.out.below hb2).1.cell (i := 0) rfl; have r1' := (HRS.out.below hb2).2.1.cell (i := 0) rfl; have r2' := (HRS.out.below hb2).2.2.cell (i := 0) rfl; have s0' := (HRS.out.below hb2).1.frozen 0; have s1' := (HRS.out.below hb2).2.1.frozen 0; have s2' := (HRS.out.below hb2).2.2.frozen 0; have z2' := (HRS.out.below hb2).2.2.lt)
        have HRS2 := Lib.hid (HRS.out.below hb2)
        have hset := HRS2.out.set (.slice ra rs.length rc) (0) (0)
        have hbl := Res3.below3 (qtrans hbel hb2) (.slice ra rs.length rc) (0) (0)
        have hKK := (hb2.block D (Array.getElem?_eq_some_iff.1 hK).1).trans hK
        have hK2 := ((KeepsOthers.setCell ((w2.setCell ⟨w.heap.size, 0, none⟩ (.slice ra rs.length rc)).setCell ⟨w.heap.size + 1, 0, none⟩ (.int .i64 (0))) ⟨w.heap.size + 2, 0, none⟩ (.int .i64 (0))).same D _ ((KeepsOthers.setCell (w2.setCell ⟨w.heap.size, 0, none⟩ (.slice ra rs.length rc)) ⟨w.heap.size + 1, 0, none⟩ (.int .i64 (0))).same D _ ((KeepsOthers.setCell w2 ⟨w.heap.size, 0, none⟩ (.slice ra rs.length rc)).same D _ hKK rfl) rfl) rfl)
        refine ⟨by simp, .inl ⟨_, _, rfl, run_takeDeferred hK2, ?_⟩⟩
        have hr2 := hset.own (grownBy_putObj' _ D (.deferred none)) (fun r e => by cases e; exact ⟨_, hK2, rfl⟩)
        have r0 := hr2.1.cell (i := 0) rfl
        have r1 := hr2.2.1.cell (i := 0) rfl
        have r2 := hr2.2.2.cell (i := 0) rfl
        have hbf := hbl.trans (belowK_b (w := w) (Nat.le_refl _) _ D _ (.deferred none) (by omega) hK2 rfl rfl)
        refine ⟨.tuple #[(.slice ra rs.length rc), .int .i64 (0), .int .i64 (0)], by simp [results, Tryz.results45, go_sem, r0, r1, r2], ?_⟩
        rw [HO.out]
        refine ⟨_, rfl, ?_, hbf⟩
        have m0 : Mod [w.heap.size, w.heap.size + 1, w.heap.size + 2] w2 (((w2.setCell ⟨w.heap.size, 0, none⟩ (.slice ra rs.length rc)).setCell ⟨w.heap.size + 1, 0, none⟩ (.int .i64 0)).setCell ⟨w.heap.size + 2, 0, none⟩ (.int .i64 0)) :=
          (((Mod.refl _ _).setCell (p := ⟨w.heap.size, 0, none⟩) (by simp) _).setCell (p := ⟨w.heap.size + 1, 0, none⟩) (by simp) _).setCell (p := ⟨w.heap.size + 2, 0, none⟩) (by simp) _
        exact (((HRR.out.below hb2).mod (m0.mono (fun k hk => by simp at hk ⊢; omega))).own (grownBy_putObj' _ D (.deferred none)) (fun r e => by cases e; exact ⟨_, hK2, rfl⟩)).fewer (fun k hk => by simp at hk ⊢; omega)
      · have hcn : (q != 0) = true := by simp [hc]
        have HO := Lib.hid ((oparse_err HRA2.out (by rw [hq]; exact hc)).trans (by rw [hq]))
        clear hq hc
        gi_wp2_with (refine ⟨trivial, ?_⟩; gi_at_call 75; refine (callsIn_wide.2 HCK.out).mono ?_; rintro e w2 ⟨rfl, hb2⟩; have q1' := (HBOX.out.below hb2).cell (i := 1) rfl; have z1' := (HBOX.out.below hb2).lt; have r0' := (HRS.out.below hb2).1.cell (i := 0) rfl; have r1' := (HRS.out.below hb2).2.1.cell (i := 0) rfl; have r2' := (HRS.out.below hb2).2.2.cell (i := 0) rfl; have s0' := (HRS.out.below hb2).1.frozen 0; have s1' := (HRS.out.below hb2).2.1.frozen 0; have s2' := (HRS.out.below hb2).2.2.frozen 0; have z2' := (HRS.out.below hb2).2.2.lt)
        have HRS2 := Lib.hid (HRS.out.below hb2)
        have hset := HRS2.out.set (.slice none 0 0) (0) (q)
        have hbl := Res3.below3 (qtrans hbel hb2) (.slice none 0 0) (0) (q)
        have hKK := (hb2.block D (Array.getElem?_eq_some_iff.1 hK).1).trans hK
        have hK2 := ((KeepsOthers.setCell ((w2.setCell ⟨w.heap.size, 0, none⟩ (.slice none 0 0)).setCell ⟨w.heap.size + 1, 0, none⟩ (.int .i64 (0))) ⟨w.heap.size + 2, 0, none⟩ (.int .i64 (q))).same D _ ((KeepsOthers.setCell (w2.setCell ⟨w.heap.size, 0, none⟩ (.slice none 0 0)) ⟨w.heap.size + 1, 0, none⟩ (.int .i64 (0))).same D _ ((KeepsOthers.setCell w2 ⟨w.heap.size, 0, none⟩ (.slice none 0 0)).same D _ hKK rfl) rfl) rfl)
        refine ⟨by simp, .inl ⟨_, _, rfl, run_takeDeferred hK2, ?_⟩⟩
        have hr2 := hset.own (grownBy_putObj' _ D (.deferred none)) (fun r e => by cases e; exact ⟨_, hK2, rfl⟩)
        have r0 := hr2.1.cell (i := 0) rfl
        have r1 := hr2.2.1.cell (i := 0) rfl
        have r2 := hr2.2.2.cell (i := 0) rfl
        have hbf := hbl.trans (belowK_b (w := w) (Nat.le_refl _) _ D _ (.deferred none) (by omega) hK2 rfl rfl)
        refine ⟨.tuple #[(.slice none 0 0), .int .i64 (0), .int .i64 (q)], by simp [results, Tryz.results45, go_sem, r0, r1, r2], ?_⟩
        rw [HO.out]
        exact ⟨_, rfl, Reads.nilRow _ _ _ _, hbf⟩
    · have hpn : ((p : Int) != 0) = true := by simp; omega
      have HO := Lib.hid (oparse_short HRA2.out hp)
      gi_wp2
      have hset := HRS.out.set (.slice none 0 0) ((s.size : Int)) (3)
      have hbl := Res3.below3 hbel (.slice none 0 0) ((s.size : Int)) (3)
      have hK2 := ((KeepsOthers.setCell ((W.setCell ⟨w.heap.size, 0, none⟩ (.slice none 0 0)).setCell ⟨w.heap.size + 1, 0, none⟩ (.int .i64 ((s.size : Int)))) ⟨w.heap.size + 2, 0, none⟩ (.int .i64 (3))).same D _ ((KeepsOthers.setCell (W.setCell ⟨w.heap.size, 0, none⟩ (.slice none 0 0)) ⟨w.heap.size + 1, 0, none⟩ (.int .i64 ((s.size : Int)))).same D _ ((KeepsOthers.setCell W ⟨w.heap.size, 0, none⟩ (.slice none 0 0)).same D _ hK rfl) rfl) rfl)
      refine ⟨by simp, .inl ⟨_, _, rfl, run_takeDeferred hK2, ?_⟩⟩
      have hr2 := hset.own (grownBy_putObj' _ D (.deferred none)) (fun r e => by cases e; exact ⟨_, hK2, rfl⟩)
      have r0 := hr2.1.cell (i := 0) rfl
      have r1 := hr2.2.1.cell (i := 0) rfl
      have r2 := hr2.2.2.cell (i := 0) rfl
      have hbf := hbl.trans (belowK_b (w := w) (Nat.le_refl _) _ D _ (.deferred none) (by omega) hK2 rfl rfl)
      refine ⟨.tuple #[(.slice none 0 0), .int .i64 ((s.size : Int)), .int .i64 (3)], by simp [results, Tryz.results45, go_sem, r0, r1, r2], ?_⟩
      rw [HO.out]
      exact ⟨_, rfl, Reads.nilRow _ _ _ _, hbf⟩
  case stop =>
    rintro D c k W hD hk ⟨rfl, i, HO, hres, hbel⟩ hK
    gi_wp2
    refine ⟨by simp, .inl ⟨_, _, rfl, run_takeDeferred hK, ?_⟩⟩
    have hr2 := hres.own (grownBy_putObj' _ D (.deferred none)) (fun r e => by cases e; exact ⟨_, hK, rfl⟩)
    have r0 := hr2.1.cell (i := 0) rfl
    have r1 := hr2.2.1.cell (i := 0) rfl
    have r2 := hr2.2.2.cell (i := 0) rfl
    refine ⟨.tuple #[.slice none 0 0, .int .i64 i, .int .i64 3], by simp [results, Tryz.results45, go_sem, r0, r1, r2], ?_⟩
    rw [HO.out]
    exact ⟨_, rfl, Reads.nilRow _ _ _ _, hbel.trans (belowK_b (w := w) (Nat.le_refl _) _ D _ _ (by omega) hK rfl rfl)⟩
theorem Parse_any (s : ByteArray) (hs : s.size ≤ 40000) (w : World) : Calls Tryz.prog 45 #[.string s] w (ParsePost (oparse s) w) :=
  (Parse_anyX s hs w).mono fun _ _ ⟨lv, h1, h2, h3⟩ => ⟨lv, h1, h2.free, h3⟩
end Go.Proofs.YtidkpnabdfiilaaGreatDoor
