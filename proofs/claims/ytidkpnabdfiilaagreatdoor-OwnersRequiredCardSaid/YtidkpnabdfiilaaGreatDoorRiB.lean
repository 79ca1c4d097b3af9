/- The reference of chapter 9: With, by files in memory. -/
import Derived.Test.YtidkpnabdfiilaaGreatDoorRiA
import Derived.Test.YtidkpnabdfiilaaGreatDoorApA
namespace Go.Proofs.YtidkpnabdfiilaaGreatDoor
open Go.RowKit

/-! Files by their cells. -/
def fileCells (fs : List OFile) : List Value := fs.flatMap fun f => [.string f.path, .string f.data]
theorem fileCells_len : ∀ fs : List OFile, (fileCells fs).length = fs.length * 2
  | [] => rfl
  | f :: fs => by have := fileCells_len fs; simp [fileCells] at this ⊢; omega
theorem readsL_files {w : World} {X : List Nat} : ∀ {fs : List OFile} {xs : List Value}, ReadsL w X (fs.flatMap fileT) xs ↔ xs = fileCells fs
  | [], xs => by simp [ReadsL, fileCells]
  | f :: fs, xs => by
    constructor
    · intro h
      obtain ⟨x, r, rfl, h1, h2⟩ := ReadsL.inv (show ReadsL w X (strT f.path :: strT f.data :: fs.flatMap fileT) xs from h)
      obtain ⟨y, r', rfl, h3, h4⟩ := ReadsL.inv h2
      rw [Reads.leafv h1, Reads.leafv h3, readsL_files.1 h4]; rfl
    · rintro rfl
      exact ReadsL.cons (Reads.leaf' _ _ _) (ReadsL.cons (Reads.leaf' _ _ _) (readsL_files.2 rfl))
theorem reads_files {w : World} {fs : List OFile} {v : Value} : Reads w [] (filesT fs) v ↔ IsRow w 2 v fs.length (fileCells fs) := by
  constructor
  · intro h
    obtain ⟨xs, h1, _, h3⟩ := Reads.toRow h
    rwa [readsL_files.1 h3] at h1
  · intro h
    exact Reads.ofRow h (fun _ _ _ h => by cases h) (readsL_files.2 rfl)
theorem fileCells_snoc (a : List OFile) (f : OFile) : fileCells (a ++ [f]) = fileCells a ++ [.string f.path, .string f.data] := by simp [fileCells]
theorem infoFile : (Tryz.prog.info? 55).map (fun i => (i.zero, i.size, i.bytes)) = some (some (.agg #[.string ⟨#[]⟩, .string ⟨#[]⟩]), 2, 32) := by kernel_rfl
/-- A slice of files that the call owns. -/
def OwnF (w : World) (base : Nat) (v : Value) (fs : List OFile) : Prop := w.ownsRow base 55 2 v fs.length (fileCells fs)
theorem OwnF.reads {w : World} {base : Nat} {v : Value} {fs : List OFile} (h : OwnF w base v fs) : Reads w [] (filesT fs) v := reads_files.2 (owns_row h)
theorem OwnF.below {w w' : World} {base : Nat} {v : Value} {fs : List OFile} (h : OwnF w base v fs) (m : Below w.heap.size w w') : OwnF w' base v fs := owns_below h m
theorem OwnF.new (w : World) (base : Nat) (hb : base ≤ w.heap.size) : OwnF (w.alloc (.cells #[] 55)) base (.slice (some ⟨w.heap.size, 0, none⟩) 0 0) [] :=
  ⟨rfl, .inr ⟨w.heap.size, 0, #[], rfl, hb, World.alloc_heap_new _ _, Nat.le_refl _, Nat.zero_le _, rfl, rfl⟩⟩
theorem OwnF.val {w : World} {base : Nat} {v : Value} {fs : List OFile} (h : OwnF w base v fs) : ∃ a cap, v = .slice a fs.length cap := owns_val h
theorem OwnF.lower {w : World} {base b' : Nat} {v : Value} {fs : List OFile} (h : OwnF w base v fs) (hb : b' ≤ base) : OwnF w b' v fs := by
  obtain ⟨h1, h2⟩ := h
  refine ⟨h1, ?_⟩
  rcases h2 with h2 | ⟨g, cap, cur, a, b, c⟩
  · exact .inl h2
  · exact .inr ⟨g, cap, cur, a, Nat.le_trans hb b, c⟩
theorem box_grown {w w' : World} {B : Nat} {t : TypeId} {xs : Array Value} {row : Option Nat} (h : CBox w B t xs) (g : w.grownBy w' row) (hne : row = some B → False) : CBox w' B t xs :=
  (g.block B h.lt (fun e => hne e.symm)).trans h
theorem with_at {f h : OFile} {fs : List OFile} {k : Nat} {put : Bool} (hk : fs[k]? = some h) : withGo f put (fs.drop k) = (if !put && !(lessB h f) then [f] else []) ++ (if sameP h f then [] else [h]) ++ withGo f (put || !(lessB h f)) (fs.drop (k + 1)) := by
  rw [drop_at hk, withGo]
theorem with_len (f : OFile) : ∀ (put : Bool) (l : List OFile), (withGo f put l).length ≤ l.length + 1
  | put, [] => by rw [withGo]; split <;> simp
  | put, h :: l => by
    rw [withGo]
    have key : ∀ (l : List OFile), (withGo f true l).length ≤ l.length := by
      intro l
      induction l with
      | nil => simp [withGo]
      | cons x l ih => rw [withGo]; simp; split <;> simp <;> omega
    have h1 := with_len f false l
    have h2 := key l
    cases put <;> cases lessB h f <;> cases sameP h f <;> simp <;> omega
set_option maxRecDepth 100000 in
set_option maxHeartbeats 2000000 in
theorem r9With_any (v : Value) (fs : List OFile) (f : OFile) (w : World) (hv : Reads w [] (filesT fs) v) (hl : fs.length ≤ 40000) :
    Calls Tryz.prog 35 #[v, .agg #[.string f.path, .string f.data]] w fun e w' => ∃ rv, e = .returned rv ∧ OwnF w' w.heap.size rv (withF fs f) ∧ Below w.heap.size w w' := by
  obtain ⟨a, cap, rfl, hc1, hc2⟩ := files_val hv
  obtain ⟨i0, hi, hz0, hz1, hz2⟩ := info_parts infoFile
  have HV := Lib.hid hv
  have HLEN := Lib.hid (with_len f false fs)
  clear hv
  go_enter Tryz.func35, Tryz.ntmps35
  go_wp2
  generalize hW0 : (w.alloc (.cells #[.string f.path, .string f.data] 55)).alloc (.cells #[] 55) = W0
  have hB0 : CBox W0 w.heap.size 55 #[.string f.path, .string f.data] := by rw [← hW0]; exact (CBox.new _ _ _).alloc _
  have hO0 : OwnF W0 (w.heap.size + 1) (.slice (some ⟨w.heap.size + 1, 0, none⟩) 0 0) [] := by
    rw [← hW0]; have := OwnF.new (w.alloc (.cells #[.string f.path, .string f.data] 55)) (w.heap.size + 1) (by simp); simpa using this
  have hb0 : Below w.heap.size w W0 := by rw [← hW0]; exact qtrans (qalloc _ _) (qalloc _ _)
  clear hW0
  go_loopw [5, 6, 7] (fun ov pv iv wr => ∃ (pre : List OFile) (put : Bool) (k : Nat), k ≤ fs.length ∧ iv = .int .i64 k ∧ pv = .bool put ∧ OwnF wr (w.heap.size + 1) ov pre ∧ CBox wr w.heap.size 55 #[.string f.path, .string f.data] ∧ Below w.heap.size w wr ∧ Hid (withF fs f = pre ++ withGo f put (fs.drop k)))
    (fun _ _ iv _ => fs.length - (intOf iv).toNat)
  case atStart => exact ⟨[], false, 0, Nat.zero_le _, rfl, rfl, hO0, hB0, hb0, rfl⟩
  case round =>
    obtain ⟨pre, put, k, hk, rfl, rfl, hown, hbox, hbel, HD⟩ := hrel
    have hpl : pre.length ≤ 40001 := by
      have := congrArg List.length HD.out
      rw [List.length_append] at this
      have := HLEN.out
      unfold withF at *
      omega
    have hbz := hbox.lt
    have c0 := hbox.cell (i := 0) rfl
    have c1 := hbox.cell (i := 1) rfl
    have hk0 : (0 : Int) ≤ (k : Int) := by omega
    by_cases hkl : k < fs.length
    · obtain ⟨fh, hh⟩ : ∃ h, fs[k]? = some h := ⟨_, List.getElem?_eq_getElem hkl⟩
      obtain ⟨b1, o1, rfl, hb1, hp1, hq1⟩ := files_elem (HV.out.below hbel) hh
      have hk1 : (k : Int) < (fs.length : Int) := by omega
      have HW := Lib.hid (HD.out.trans (congrArg (pre ++ ·) (with_at hh)))
      have HL1 : Hid (lessB fh f = Op.bytesLess fh.path.toList f.path.toList) := by show _ = _; rw [lessB, tl, tl]
      have HSP : Hid (sameP fh f = (fh.path.toList == f.path.toList)) := by show _ = _; rw [sameP, tl, tl]
      have HH := Lib.hid hh
      clear HD hh
      cases hsp : (fh.path.toList == f.path.toList) with
      | true =>
        cases put with
        | true =>
          cases hl1 : Op.bytesLess fh.path.toList f.path.toList with
          | true =>
            have HN : Hid (withF fs f = (pre) ++ withGo f true (fs.drop (k + 1))) := by
              show _ = _; rw [HW.out, HSP.out, hsp, HL1.out, hl1]; simp
            clear HW HSP HL1
            go_wp2
            go_quiet (fail)
            generalize nq = nq0 at *
            go_wp2
            go_quiet (fail)
            have hownd := hown.below (below_drewN (qrefl wr) (nq0 + nq))
            have hbeld := below_drewN hbel (nq0 + nq)
            have hboxd := hbox.below (below_drewN (qrefl wr) (nq0 + nq))
            go_wp2
            go_roundw
            case rel => exact ⟨_, true, k + 1, by omega, by go_num, rfl, hownd, hboxd, hbeld, HN⟩
            case measure => simp [intOf]; omega
          | false =>
            have HN : Hid (withF fs f = (pre) ++ withGo f true (fs.drop (k + 1))) := by
              show _ = _; rw [HW.out, HSP.out, hsp, HL1.out, hl1]; simp
            clear HW HSP HL1
            go_wp2
            go_quiet (fail)
            generalize nq = nq0 at *
            go_wp2
            go_quiet (fail)
            have hownd := hown.below (below_drewN (qrefl wr) (nq0 + nq))
            have hbeld := below_drewN hbel (nq0 + nq)
            have hboxd := hbox.below (below_drewN (qrefl wr) (nq0 + nq))
            go_wp2
            go_roundw
            case rel => exact ⟨_, true, k + 1, by omega, by go_num, rfl, hownd, hboxd, hbeld, HN⟩
            case measure => simp [intOf]; omega
        | false =>
          cases hl1 : Op.bytesLess fh.path.toList f.path.toList with
          | true =>
            have HN : Hid (withF fs f = (pre) ++ withGo f false (fs.drop (k + 1))) := by
              show _ = _; rw [HW.out, HSP.out, hsp, HL1.out, hl1]; simp
            clear HW HSP HL1
            go_wp2
            go_quiet (fail)
            generalize nq = nq0 at *
            go_wp2
            go_quiet (fail)
            have hownd := hown.below (below_drewN (qrefl wr) (nq0 + nq))
            have hbeld := below_drewN hbel (nq0 + nq)
            have hboxd := hbox.below (below_drewN (qrefl wr) (nq0 + nq))
            go_wp2
            go_roundw
            case rel => exact ⟨_, false, k + 1, by omega, by go_num, rfl, hownd, hboxd, hbeld, HN⟩
            case measure => simp [intOf]; omega
          | false =>
            have HN : Hid (withF fs f = (pre ++ [f]) ++ withGo f true (fs.drop (k + 1))) := by
              show _ = _; rw [HW.out, HSP.out, hsp, HL1.out, hl1]; simp
            clear HW HSP HL1
            go_wp2
            go_quiet (fail)
            have hownd := hown.below (below_drewN (qrefl wr) nq)
            have hbeld := below_drewN hbel nq
            have hboxd := hbox.below (below_drewN (qrefl wr) nq)
            go_wp2_with (at_builtin; refine wpList_append_own _ rfl _ _ 22 rfl (w.heap.size + 1) 55 i0 _ 2 32 Tryz.underlying22 hi hz0 hz1 hz2 rfl (by decide) _ _ _ rfl (hownd.alloc _) _ 1 1 [.string f.path, .string f.data] rfl rfl (cell_two _ _ _ _) (by simp [Value.oneCell']) (by unfold maxLen; (try simp); omega) (by (try simp); omega) (by simp; omega) ?_)
            intro v3 w3 hown3 hg3 _
            have hb3 : Below w.heap.size w w3 := (qtrans hbeld (qalloc _ _)).grown hg3 (by simp; omega) (fun k hk => by have := owns_block hownd hk; omega)
            have hs3 : OwnF w3 (w.heap.size + 1) v3 (pre ++ [f]) := by unfold OwnF; rw [List.length_append, fileCells_snoc]; exact hown3
            have hbox3 : CBox w3 w.heap.size 55 #[.string f.path, .string f.data] := box_grown (hboxd.alloc _) hg3 (fun e => by have := owns_block hownd e; omega)
            have HE3 := Lib.hid (files_elem (HV.out.below hb3) HH.out)
            obtain ⟨b1', o1', e1', hb1', hp1', hq1'⟩ := HE3.out
            cases e1'
            have d0 := hbox3.cell (i := 0) rfl
            have d1 := hbox3.cell (i := 1) rfl
            have hbz3 := hbox3.lt
            clear hown hownd hown3 hg3 hbox hboxd hbel hbeld c0 c1 hp1 hq1 hb1 hbz HE3
            go_wp2
            generalize nq = nq0 at *
            go_quiet (fail)
            have hownd := hs3.below (below_drewN (qrefl _) nq)
            have hbeld := below_drewN hb3 nq
            have hboxd := hbox3.below (below_drewN (qrefl _) nq)
            go_wp2
            go_roundw
            case rel => exact ⟨_, true, k + 1, by omega, by go_num, rfl, hownd, hboxd, hbeld, HN⟩
            case measure => simp [intOf]; omega
      | false =>
        cases put with
        | true =>
          cases hl1 : Op.bytesLess fh.path.toList f.path.toList with
          | true =>
            have HN : Hid (withF fs f = (pre ++ [fh]) ++ withGo f true (fs.drop (k + 1))) := by
              show _ = _; rw [HW.out, HSP.out, hsp, HL1.out, hl1]; simp
            clear HW HSP HL1
            go_wp2
            go_quiet (fail)
            generalize nq = nq0 at *
            go_wp2
            go_quiet (fail)
            have hownd := hown.below (below_drewN (qrefl wr) (nq0 + nq))
            have hbeld := below_drewN hbel (nq0 + nq)
            have hboxd := hbox.below (below_drewN (qrefl wr) (nq0 + nq))
            go_wp2_with (at_builtin; refine wpList_append_own _ rfl _ _ 22 rfl (w.heap.size + 1) 55 i0 _ 2 32 Tryz.underlying22 hi hz0 hz1 hz2 rfl (by decide) _ _ _ rfl (hownd.alloc _) _ 1 1 [.string fh.path, .string fh.data] rfl rfl (cell_two _ _ _ _) (by simp [Value.oneCell']) (by unfold maxLen; (try simp); omega) (by (try simp); omega) (by simp; omega) ?_)
            intro v4 w4 hown4 hg4 _
            have hb4 : Below w.heap.size w w4 := (qtrans hbeld (qalloc _ _)).grown hg4 (by simp; omega) (fun k hk => by have := owns_block hownd hk; omega)
            have hs4 : OwnF w4 (w.heap.size + 1) v4 (pre ++ [fh]) := by unfold OwnF; rw [fileCells_snoc]; simpa using hown4
            have hbox4 : CBox w4 w.heap.size 55 #[.string f.path, .string f.data] := box_grown (hboxd.alloc _) hg4 (fun e => by have := owns_block hownd e; omega)
            go_wp2
            go_roundw
            case rel => exact ⟨_, true, k + 1, by omega, by go_num, rfl, hs4, hbox4, hb4, HN⟩
            case measure => simp [intOf]; omega
          | false =>
            have HN : Hid (withF fs f = (pre ++ [fh]) ++ withGo f true (fs.drop (k + 1))) := by
              show _ = _; rw [HW.out, HSP.out, hsp, HL1.out, hl1]; simp
            clear HW HSP HL1
            go_wp2
            go_quiet (fail)
            generalize nq = nq0 at *
            go_wp2
            go_quiet (fail)
            have hownd := hown.below (below_drewN (qrefl wr) (nq0 + nq))
            have hbeld := below_drewN hbel (nq0 + nq)
            have hboxd := hbox.below (below_drewN (qrefl wr) (nq0 + nq))
            go_wp2_with (at_builtin; refine wpList_append_own _ rfl _ _ 22 rfl (w.heap.size + 1) 55 i0 _ 2 32 Tryz.underlying22 hi hz0 hz1 hz2 rfl (by decide) _ _ _ rfl (hownd.alloc _) _ 1 1 [.string fh.path, .string fh.data] rfl rfl (cell_two _ _ _ _) (by simp [Value.oneCell']) (by unfold maxLen; (try simp); omega) (by (try simp); omega) (by simp; omega) ?_)
            intro v4 w4 hown4 hg4 _
            have hb4 : Below w.heap.size w w4 := (qtrans hbeld (qalloc _ _)).grown hg4 (by simp; omega) (fun k hk => by have := owns_block hownd hk; omega)
            have hs4 : OwnF w4 (w.heap.size + 1) v4 (pre ++ [fh]) := by unfold OwnF; rw [fileCells_snoc]; simpa using hown4
            have hbox4 : CBox w4 w.heap.size 55 #[.string f.path, .string f.data] := box_grown (hboxd.alloc _) hg4 (fun e => by have := owns_block hownd e; omega)
            go_wp2
            go_roundw
            case rel => exact ⟨_, true, k + 1, by omega, by go_num, rfl, hs4, hbox4, hb4, HN⟩
            case measure => simp [intOf]; omega
        | false =>
          cases hl1 : Op.bytesLess fh.path.toList f.path.toList with
          | true =>
            have HN : Hid (withF fs f = (pre ++ [fh]) ++ withGo f false (fs.drop (k + 1))) := by
              show _ = _; rw [HW.out, HSP.out, hsp, HL1.out, hl1]; simp
            clear HW HSP HL1
            go_wp2
            go_quiet (fail)
            generalize nq = nq0 at *
            go_wp2
            go_quiet (fail)
            have hownd := hown.below (below_drewN (qrefl wr) (nq0 + nq))
            have hbeld := below_drewN hbel (nq0 + nq)
            have hboxd := hbox.below (below_drewN (qrefl wr) (nq0 + nq))
            go_wp2_with (at_builtin; refine wpList_append_own _ rfl _ _ 22 rfl (w.heap.size + 1) 55 i0 _ 2 32 Tryz.underlying22 hi hz0 hz1 hz2 rfl (by decide) _ _ _ rfl (hownd.alloc _) _ 1 1 [.string fh.path, .string fh.data] rfl rfl (cell_two _ _ _ _) (by simp [Value.oneCell']) (by unfold maxLen; (try simp); omega) (by (try simp); omega) (by simp; omega) ?_)
            intro v4 w4 hown4 hg4 _
            have hb4 : Below w.heap.size w w4 := (qtrans hbeld (qalloc _ _)).grown hg4 (by simp; omega) (fun k hk => by have := owns_block hownd hk; omega)
            have hs4 : OwnF w4 (w.heap.size + 1) v4 (pre ++ [fh]) := by unfold OwnF; rw [fileCells_snoc]; simpa using hown4
            have hbox4 : CBox w4 w.heap.size 55 #[.string f.path, .string f.data] := box_grown (hboxd.alloc _) hg4 (fun e => by have := owns_block hownd e; omega)
            go_wp2
            go_roundw
            case rel => exact ⟨_, false, k + 1, by omega, by go_num, rfl, hs4, hbox4, hb4, HN⟩
            case measure => simp [intOf]; omega
          | false =>
            have HN : Hid (withF fs f = (pre ++ [f] ++ [fh]) ++ withGo f true (fs.drop (k + 1))) := by
              show _ = _; rw [HW.out, HSP.out, hsp, HL1.out, hl1]; simp
            clear HW HSP HL1
            go_wp2
            go_quiet (fail)
            have hownd := hown.below (below_drewN (qrefl wr) nq)
            have hbeld := below_drewN hbel nq
            have hboxd := hbox.below (below_drewN (qrefl wr) nq)
            go_wp2_with (at_builtin; refine wpList_append_own _ rfl _ _ 22 rfl (w.heap.size + 1) 55 i0 _ 2 32 Tryz.underlying22 hi hz0 hz1 hz2 rfl (by decide) _ _ _ rfl (hownd.alloc _) _ 1 1 [.string f.path, .string f.data] rfl rfl (cell_two _ _ _ _) (by simp [Value.oneCell']) (by unfold maxLen; (try simp); omega) (by (try simp); omega) (by simp; omega) ?_)
            intro v3 w3 hown3 hg3 _
            have hb3 : Below w.heap.size w w3 := (qtrans hbeld (qalloc _ _)).grown hg3 (by simp; omega) (fun k hk => by have := owns_block hownd hk; omega)
            have hs3 : OwnF w3 (w.heap.size + 1) v3 (pre ++ [f]) := by unfold OwnF; rw [List.length_append, fileCells_snoc]; exact hown3
            have hbox3 : CBox w3 w.heap.size 55 #[.string f.path, .string f.data] := box_grown (hboxd.alloc _) hg3 (fun e => by have := owns_block hownd e; omega)
            have HE3 := Lib.hid (files_elem (HV.out.below hb3) HH.out)
            obtain ⟨b1', o1', e1', hb1', hp1', hq1'⟩ := HE3.out
            cases e1'
            have d0 := hbox3.cell (i := 0) rfl
            have d1 := hbox3.cell (i := 1) rfl
            have hbz3 := hbox3.lt
            clear hown hownd hown3 hg3 hbox hboxd hbel hbeld c0 c1 hp1 hq1 hb1 hbz HE3
            go_wp2
            generalize nq = nq0 at *
            go_quiet (fail)
            have hownd := hs3.below (below_drewN (qrefl _) nq)
            have hbeld := below_drewN hb3 nq
            have hboxd := hbox3.below (below_drewN (qrefl _) nq)
            go_wp2_with (at_builtin; refine wpList_append_own _ rfl _ _ 22 rfl (w.heap.size + 1) 55 i0 _ 2 32 Tryz.underlying22 hi hz0 hz1 hz2 rfl (by decide) _ _ _ rfl (hownd.alloc _) _ 1 1 [.string fh.path, .string fh.data] rfl rfl (cell_two _ _ _ _) (by simp [Value.oneCell']) (by unfold maxLen; (try simp); omega) (by (try simp); omega) (by simp; omega) ?_)
            intro v4 w4 hown4 hg4 _
            have hb4 : Below w.heap.size w w4 := (qtrans hbeld (qalloc _ _)).grown hg4 (by simp; omega) (fun k hk => by have := owns_block hownd hk; omega)
            have hs4 : OwnF w4 (w.heap.size + 1) v4 ((pre ++ [f]) ++ [fh]) := by unfold OwnF; rw [fileCells_snoc]; simpa using hown4
            have hbox4 : CBox w4 w.heap.size 55 #[.string f.path, .string f.data] := box_grown (hboxd.alloc _) hg4 (fun e => by have := owns_block hownd e; omega)
            go_wp2
            go_roundw
            case rel => exact ⟨_, true, k + 1, by omega, by go_num, rfl, hs4, hbox4, hb4, HN⟩
            case measure => simp [intOf]; omega
    · have HN : Hid (withF fs f = pre ++ (if put then [] else [f])) := by
        show _ = _; rw [HD.out, List.drop_eq_nil_of_le (by omega)]; rfl
      cases put with
      | true =>
        go_wp2
        go_ret
        exact ⟨_, rfl, by rw [HN.out]; simpa using OwnF.lower hown (by omega), hbel⟩
      | false =>
        go_wp2_with (at_builtin; refine wpList_append_own _ rfl _ _ 22 rfl (w.heap.size + 1) 55 i0 _ 2 32 Tryz.underlying22 hi hz0 hz1 hz2 rfl (by decide) _ _ _ rfl (hown.alloc _) _ 1 1 [.string f.path, .string f.data] rfl rfl (cell_two _ _ _ _) (by simp [Value.oneCell']) (by unfold maxLen; omega) (by omega) (by simp; omega) ?_)
        intro v' w3 hown3 hg3 _
        have hb3 : Below w.heap.size w w3 := (qtrans hbel (qalloc _ _)).grown hg3 (by simp; omega) (fun k hk => by have := owns_block hown hk; omega)
        have hs3 : OwnF w3 (w.heap.size + 1) v' (pre ++ [f]) := by unfold OwnF; rw [List.length_append, fileCells_snoc]; exact hown3
        clear hg3 hown hown3
        go_wp2
        go_ret
        exact ⟨_, rfl, by rw [HN.out]; exact hs3.lower (by omega), hb3⟩
end Go.Proofs.YtidkpnabdfiilaaGreatDoor
