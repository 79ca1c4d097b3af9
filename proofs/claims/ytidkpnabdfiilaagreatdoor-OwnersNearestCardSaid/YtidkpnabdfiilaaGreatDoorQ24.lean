/- The reference of chapter 9: With, by files in memory. The reference of chapter 9: Changes. -/
import Derived.Test.YtidkpnabdfiilaaGreatDoorQ23
import Derived.Test.YtidkpnabdfiilaaGreatDoorQ17
namespace Go.Proofs.YtidkpnabdfiilaaGreatDoor
open Go.RowKit

/-! Files by their cells. -/
def fileCells (fs : List OFile) : List Value := fs.flatMap fun f => [.string f.path, .string f.data]
theorem fileCells_len : ∀ fs : List OFile, (fileCells fs).length = fs.length * 2
  | [] => rfl
  | f :: fs => by have := fileCells_len fs; simp [fileCells] at this ⊢; omega
theorem readsL_files {w : World} {X : List Nat} : ∀ {fs : List OFile} {xs : List Value}, ReadsL w X (fs.flatMap fileT) xs ↔ xs = fileCells fs
  | [], xs => by simp [ReadsL, fileCells]
  | f :: fs, xs => by
    constructor
    · intro h
      obtain ⟨x, r, rfl, h1, h2⟩ := ReadsL.inv (show ReadsL w X (strT f.path :: strT f.data :: fs.flatMap fileT) xs from h)
      obtain ⟨y, r', rfl, h3, h4⟩ := ReadsL.inv h2
      rw [Reads.leafv h1, Reads.leafv h3, readsL_files.1 h4]; rfl
    · rintro rfl
      exact ReadsL.cons (Reads.leaf' _ _ _) (ReadsL.cons (Reads.leaf' _ _ _) (readsL_files.2 rfl))
theorem reads_files {w : World} {fs : List OFile} {v : Value} : Reads w [] (filesT fs) v ↔ IsRow w 2 v fs.length (fileCells fs) := by
  constructor
  · intro h
    obtain ⟨xs, h1, _, h3⟩ := Reads.toRow h
    rwa [readsL_files.1 h3] at h1
  · intro h
    exact Reads.ofRow h (fun _ _ _ h => by cases h) (readsL_files.2 rfl)
theorem fileCells_snoc (a : List OFile) (f : OFile) : fileCells (a ++ [f]) = fileCells a ++ [.string f.path, .string f.data] := by simp [fileCells]
theorem infoFile : (Tryz.prog.info? 55).map (fun i => (i.zero, i.size, i.bytes)) = some (some (.agg #[.string ⟨#[]⟩, .string ⟨#[]⟩]), 2, 32) := by kernel_rfl
/-- A slice of files that the call owns. -/
def OwnF (w : World) (base : Nat) (v : Value) (fs : List OFile) : Prop := w.ownsRow base 55 2 v fs.length (fileCells fs)
theorem OwnF.reads {w : World} {base : Nat} {v : Value} {fs : List OFile} (h : OwnF w base v fs) : Reads w [] (filesT fs) v := reads_files.2 (owns_row h)
theorem OwnF.below {w w' : World} {base : Nat} {v : Value} {fs : List OFile} (h : OwnF w base v fs) (m : Below w.heap.size w w') : OwnF w' base v fs := owns_below h m
theorem OwnF.new (w : World) (base : Nat) (hb : base ≤ w.heap.size) : OwnF (w.alloc (.cells #[] 55)) base (.slice (some ⟨w.heap.size, 0, none⟩) 0 0) [] :=
  ⟨rfl, .inr ⟨w.heap.size, 0, #[], rfl, hb, World.alloc_heap_new _ _, Nat.le_refl _, Nat.zero_le _, rfl, rfl⟩⟩
theorem OwnF.val {w : World} {base : Nat} {v : Value} {fs : List OFile} (h : OwnF w base v fs) : ∃ a cap, v = .slice a fs.length cap := owns_val h
theorem OwnF.lower {w : World} {base b' : Nat} {v : Value} {fs : List OFile} (h : OwnF w base v fs) (hb : b' ≤ base) : OwnF w b' v fs := by
  obtain ⟨h1, h2⟩ := h
  refine ⟨h1, ?_⟩
  rcases h2 with h2 | ⟨g, cap, cur, a, b, c⟩
  · exact .inl h2
  · exact .inr ⟨g, cap, cur, a, Nat.le_trans hb b, c⟩
theorem box_grown {w w' : World} {B : Nat} {t : TypeId} {xs : Array Value} {row : Option Nat} (h : CBox w B t xs) (g : w.grownBy w' row) (hne : row = some B → False) : CBox w' B t xs :=
  (g.block B h.lt (fun e => hne e.symm)).trans h
theorem with_at {f h : OFile} {fs : List OFile} {k : Nat} {put : Bool} (hk : fs[k]? = some h) : withGo f put (fs.drop k) = (if !put && !(lessB h f) then [f] else []) ++ (if sameP h f then [] else [h]) ++ withGo f (put || !(lessB h f)) (fs.drop (k + 1)) := by
  rw [drop_at hk, withGo]
theorem with_len (f : OFile) : ∀ (put : Bool) (l : List OFile), (withGo f put l).length ≤ l.length + 1
  | put, [] => by rw [withGo]; split <;> simp
  | put, h :: l => by
    rw [withGo]
    have key : ∀ (l : List OFile), (withGo f true l).length ≤ l.length := by
      intro l
      induction l with
      | nil => simp [withGo]
      | cons x l ih => rw [withGo]; simp; split <;> simp <;> omega
    have h1 := with_len f false l
    have h2 := key l
    cases put <;> cases lessB h f <;> cases sameP h f <;> simp <;> omega
set_option maxRecDepth 100000 in
set_option maxHeartbeats 2000000 in
theorem r9With_any (v : Value) (fs : List OFile) (f : OFile) (w : World) (hv : Reads w [] (filesT fs) v) (hl : fs.length ≤ 40000) :
    Calls Tryz.prog 35 #[v, .agg #[.string f.path, .string f.data]] w fun e w' => ∃ rv, e = .returned rv ∧ OwnF w' w.heap.size rv (withF fs f) ∧ Below w.heap.size w w' := by
  obtain ⟨a, cap, rfl, hc1, hc2⟩ := files_val hv
  obtain ⟨i0, hi, hz0, hz1, hz2⟩ := info_parts infoFile
  have HV := Lib.hid hv
  have HLEN := Lib.hid (with_len f false fs)
  clear hv
  go_enter Tryz.func35, Tryz.ntmps35
  go_wp2
  generalize hW0 : (w.alloc (.cells #[.string f.path, .string f.data] 55)).alloc (.cells #[] 55) = W0
  have hB0 : CBox W0 w.heap.size 55 #[.string f.path, .string f.data] := by rw [← hW0]; exact (CBox.new _ _ _).alloc _
  have hO0 : OwnF W0 (w.heap.size + 1) (.slice (some ⟨w.heap.size + 1, 0, none⟩) 0 0) [] := by
    rw [← hW0]; have := OwnF.new (w.alloc (.cells #[.string f.path, .string f.data] 55)) (w.heap.size + 1) (by simp); simpa using this
  have hb0 : Below w.heap.size w W0 := by rw [← hW0]; exact qtrans (qalloc _ _) (qalloc _ _)
  clear hW0
  go_loopw [5, 6, 7] (fun ov pv iv wr => ∃ (pre : List OFile) (put : Bool) (k : Nat), k ≤ fs.length ∧ iv = .int .i64 k ∧ pv = .bool put ∧ OwnF wr (w.heap.size + 1) ov pre ∧ CBox wr w.heap.size 55 #[.string f.path, .string f.data] ∧ Below w.heap.size w wr ∧ Hid (withF fs f = pre ++ withGo f put (fs.drop k)))
    (fun _ _ iv _ => fs.length - (intOf iv).toNat)
  case atStart => exact ⟨[], false, 0, Nat.zero_le _, rfl, rfl, hO0, hB0, hb0, rfl⟩
  case round =>
    obtain ⟨pre, put, k, hk, rfl, rfl, hown, hbox, hbel, HD⟩ := hrel
    have hpl : pre.length ≤ 40001 := by
      have := congrArg List.length HD.out
      rw [List.length_append] at this
      have := HLEN.out
      unfold withF at *
      omega
    have hbz := hbox.lt
    have c0 := hbox.cell (i := 0) rfl
    have c1 := hbox.cell (i := 1) rfl
    have hk0 : (0 : Int) ≤ (k : Int) := by omega
    by_cases hkl : k < fs.length
    · obtain ⟨fh, hh⟩ : ∃ h, fs[k]? = some h := ⟨_, List.getElem?_eq_getElem hkl⟩
      obtain ⟨b1, o1, rfl, hb1, hp1, hq1⟩ := files_elem (HV.out.below hbel) hh
      have hk1 : (k : Int) < (fs.length : Int) := by omega
      have HW := Lib.hid (HD.out.trans (congrArg (pre ++ ·) (with_at hh)))
      have HL1 : Hid (lessB fh f = Op.bytesLess fh.path.toList f.path.toList) := by show _ = _; rw [lessB, tl, tl]
      have HSP : Hid (sameP fh f = (fh.path.toList == f.path.toList)) := by show _ = _; rw [sameP, tl, tl]
      have HH := Lib.hid hh
      clear HD hh
      cases hsp : (fh.path.toList == f.path.toList) with
      | true =>
        cases put with
        | true =>
          cases hl1 : Op.bytesLess fh.path.toList f.path.toList with
          | true =>
            have HN : Hid (withF fs f = (pre) ++ withGo f true (fs.drop (k + 1))) := by
              show _ = _; rw [HW.out, HSP.out, hsp, HL1.out, hl1]; simp
            clear HW HSP HL1
            go_wp2
            go_quiet (fail)
            generalize nq = nq0 at *
            go_wp2
            go_quiet (fail)
            have hownd := hown.below (below_drewN (qrefl wr) (nq0 + nq))
            have hbeld := below_drewN hbel (nq0 + nq)
            have hboxd := hbox.below (below_drewN (qrefl wr) (nq0 + nq))
            go_wp2
            go_roundw
            case rel => exact ⟨_, true, k + 1, by omega, by go_num, rfl, hownd, hboxd, hbeld, HN⟩
            case measure => simp [intOf]; omega
          | false =>
            have HN : Hid (withF fs f = (pre) ++ withGo f true (fs.drop (k + 1))) := by
              show _ = _; rw [HW.out, HSP.out, hsp, HL1.out, hl1]; simp
            clear HW HSP HL1
            go_wp2
            go_quiet (fail)
            generalize nq = nq0 at *
            go_wp2
            go_quiet (fail)
            have hownd := hown.below (below_drewN (qrefl wr) (nq0 + nq))
            have hbeld := below_drewN hbel (nq0 + nq)
            have hboxd := hbox.below (below_drewN (qrefl wr) (nq0 + nq))
            go_wp2
            go_roundw
            case rel => exact ⟨_, true, k + 1, by omega, by go_num, rfl, hownd, hboxd, hbeld, HN⟩
            case measure => simp [intOf]; omega
        | false =>
          cases hl1 : Op.bytesLess fh.path.toList f.path.toList with
          | true =>
            have HN : Hid (withF fs f = (pre) ++ withGo f false (fs.drop (k + 1))) := by
              show _ = _; rw [HW.out, HSP.out, hsp, HL1.out, hl1]; simp
            clear HW HSP HL1
            go_wp2
            go_quiet (fail)
            generalize nq = nq0 at *
            go_wp2
            go_quiet (fail)
            have hownd := hown.below (below_drewN (qrefl wr) (nq0 + nq))
            have hbeld := below_drewN hbel (nq0 + nq)
            have hboxd := hbox.below (below_drewN (qrefl wr) (nq0 + nq))
            go_wp2
            go_roundw
            case rel => exact ⟨_, false, k + 1, by omega, by go_num, rfl, hownd, hboxd, hbeld, HN⟩
            case measure => simp [intOf]; omega
          | false =>
            have HN : Hid (withF fs f = (pre ++ [f]) ++ withGo f true (fs.drop (k + 1))) := by
              show _ = _; rw [HW.out, HSP.out, hsp, HL1.out, hl1]; simp
            clear HW HSP HL1
            go_wp2
            go_quiet (fail)
            have hownd := hown.below (below_drewN (qrefl wr) nq)
            have hbeld := below_drewN hbel nq
            have hboxd := hbox.below (below_drewN (qrefl wr) nq)
            go_wp2_with (at_builtin; refine wpList_append_own _ rfl _ _ 22 rfl (w.heap.size + 1) 55 i0 _ 2 32 Tryz.underlying22 hi hz0 hz1 hz2 rfl (by decide) _ _ _ rfl (hownd.alloc _) _ 1 1 [.string f.path, .string f.data] rfl rfl (cell_two _ _ _ _) (by simp [Value.oneCell']) (by unfold maxLen; (try simp); omega) (by (try simp); omega) (by simp; omega) ?_)
            intro v3 w3 hown3 hg3 _
            have hb3 : Below w.heap.size w w3 := (qtrans hbeld (qalloc _ _)).grown hg3 (by simp; omega) (fun k hk => by have := owns_block hownd hk; omega)
            have hs3 : OwnF w3 (w.heap.size + 1) v3 (pre ++ [f]) := by unfold OwnF; rw [List.length_append, fileCells_snoc]; exact hown3
            have hbox3 : CBox w3 w.heap.size 55 #[.string f.path, .string f.data] := box_grown (hboxd.alloc _) hg3 (fun e => by have := owns_block hownd e; omega)
            have HE3 := Lib.hid (files_elem (HV.out.below hb3) HH.out)
            obtain ⟨b1', o1', e1', hb1', hp1', hq1'⟩ := HE3.out
            cases e1'
            have d0 := hbox3.cell (i := 0) rfl
            have d1 := hbox3.cell (i := 1) rfl
            have hbz3 := hbox3.lt
            clear hown hownd hown3 hg3 hbox hboxd hbel hbeld c0 c1 hp1 hq1 hb1 hbz HE3
            go_wp2
            generalize nq = nq0 at *
            go_quiet (fail)
            have hownd := hs3.below (below_drewN (qrefl _) nq)
            have hbeld := below_drewN hb3 nq
            have hboxd := hbox3.below (below_drewN (qrefl _) nq)
            go_wp2
            go_roundw
            case rel => exact ⟨_, true, k + 1, by omega, by go_num, rfl, hownd, hboxd, hbeld, HN⟩
            case measure => simp [intOf]; omega
      | false =>
        cases put with
        | true =>
          cases hl1 : Op.bytesLess fh.path.toList f.path.toList with
          | true =>
            have HN : Hid (withF fs f = (pre ++ [fh]) ++ withGo f true (fs.drop (k + 1))) := by
              show _ = _; rw [HW.out, HSP.out, hsp, HL1.out, hl1]; simp
            clear HW HSP HL1
            go_wp2
            go_quiet (fail)
            generalize nq = nq0 at *
            go_wp2
            go_quiet (fail)
            have hownd := hown.below (below_drewN (qrefl wr) (nq0 + nq))
            have hbeld := below_drewN hbel (nq0 + nq)
            have hboxd := hbox.below (below_drewN (qrefl wr) (nq0 + nq))
            go_wp2_with (at_builtin; refine wpList_append_own _ rfl _ _ 22 rfl (w.heap.size + 1) 55 i0 _ 2 32 Tryz.underlying22 hi hz0 hz1 hz2 rfl (by decide) _ _ _ rfl (hownd.alloc _) _ 1 1 [.string fh.path, .string fh.data] rfl rfl (cell_two _ _ _ _) (by simp [Value.oneCell']) (by unfold maxLen; (try simp); omega) (by (try simp); omega) (by simp; omega) ?_)
            intro v4 w4 hown4 hg4 _
            have hb4 : Below w.heap.size w w4 := (qtrans hbeld (qalloc _ _)).grown hg4 (by simp; omega) (fun k hk => by have := owns_block hownd hk; omega)
            have hs4 : OwnF w4 (w.heap.size + 1) v4 (pre ++ [fh]) := by unfold OwnF; rw [fileCells_snoc]; simpa using hown4
            have hbox4 : CBox w4 w.heap.size 55 #[.string f.path, .string f.data] := box_grown (hboxd.alloc _) hg4 (fun e => by have := owns_block hownd e; omega)
            go_wp2
            go_roundw
            case rel => exact ⟨_, true, k + 1, by omega, by go_num, rfl, hs4, hbox4, hb4, HN⟩
            case measure => simp [intOf]; omega
          | false =>
            have HN : Hid (withF fs f = (pre ++ [fh]) ++ withGo f true (fs.drop (k + 1))) := by
              show _ = _; rw [HW.out, HSP.out, hsp, HL1.out, hl1]; simp
            clear HW HSP HL1
            go_wp2
            go_quiet (fail)
            generalize nq = nq0 at *
            go_wp2
            go_quiet (fail)
            have hownd := hown.below (below_drewN (qrefl wr) (nq0 + nq))
            have hbeld := below_drewN hbel (nq0 + nq)
            have hboxd := hbox.below (below_drewN (qrefl wr) (nq0 + nq))
            go_wp2_with (at_builtin; refine wpList_append_own _ rfl _ _ 22 rfl (w.heap.size + 1) 55 i0 _ 2 32 Tryz.underlying22 hi hz0 hz1 hz2 rfl (by decide) _ _ _ rfl (hownd.alloc _) _ 1 1 [.string fh.path, .string fh.data] rfl rfl (cell_two _ _ _ _) (by simp [Value.oneCell']) (by unfold maxLen; (try simp); omega) (by (try simp); omega) (by simp; omega) ?_)
            intro v4 w4 hown4 hg4 _
            have hb4 : Below w.heap.size w w4 := (qtrans hbeld (qalloc _ _)).grown hg4 (by simp; omega) (fun k hk => by have := owns_block hownd hk; omega)
            have hs4 : OwnF w4 (w.heap.size + 1) v4 (pre ++ [fh]) := by unfold OwnF; rw [fileCells_snoc]; simpa using hown4
            have hbox4 : CBox w4 w.heap.size 55 #[.string f.path, .string f.data] := box_grown (hboxd.alloc _) hg4 (fun e => by have := owns_block hownd e; omega)
            go_wp2
            go_roundw
            case rel => exact ⟨_, true, k + 1, by omega, by go_num, rfl, hs4, hbox4, hb4, HN⟩
            case measure => simp [intOf]; omega
        | false =>
          cases hl1 : Op.bytesLess fh.path.toList f.path.toList with
          | true =>
            have HN : Hid (withF fs f = (pre ++ [fh]) ++ withGo f false (fs.drop (k + 1))) := by
              show _ = _; rw [HW.out, HSP.out, hsp, HL1.out, hl1]; simp
            clear HW HSP HL1
            go_wp2
            go_quiet (fail)
            generalize nq = nq0 at *
            go_wp2
            go_quiet (fail)
            have hownd := hown.below (below_drewN (qrefl wr) (nq0 + nq))
            have hbeld := below_drewN hbel (nq0 + nq)
            have hboxd := hbox.below (below_drewN (qrefl wr) (nq0 + nq))
            go_wp2_with (at_builtin; refine wpList_append_own _ rfl _ _ 22 rfl (w.heap.size + 1) 55 i0 _ 2 32 Tryz.underlying22 hi hz0 hz1 hz2 rfl (by decide) _ _ _ rfl (hownd.alloc _) _ 1 1 [.string fh.path, .string fh.data] rfl rfl (cell_two _ _ _ _) (by simp [Value.oneCell']) (by unfold maxLen; (try simp); omega) (by (try simp); omega) (by simp; omega) ?_)
            intro v4 w4 hown4 hg4 _
            have hb4 : Below w.heap.size w w4 := (qtrans hbeld (qalloc _ _)).grown hg4 (by simp; omega) (fun k hk => by have := owns_block hownd hk; omega)
            have hs4 : OwnF w4 (w.heap.size + 1) v4 (pre ++ [fh]) := by unfold OwnF; rw [fileCells_snoc]; simpa using hown4
            have hbox4 : CBox w4 w.heap.size 55 #[.string f.path, .string f.data] := box_grown (hboxd.alloc _) hg4 (fun e => by have := owns_block hownd e; omega)
            go_wp2
            go_roundw
            case rel => exact ⟨_, false, k + 1, by omega, by go_num, rfl, hs4, hbox4, hb4, HN⟩
            case measure => simp [intOf]; omega
          | false =>
            have HN : Hid (withF fs f = (pre ++ [f] ++ [fh]) ++ withGo f true (fs.drop (k + 1))) := by
              show _ = _; rw [HW.out, HSP.out, hsp, HL1.out, hl1]; simp
            clear HW HSP HL1
            go_wp2
            go_quiet (fail)
            have hownd := hown.below (below_drewN (qrefl wr) nq)
            have hbeld := below_drewN hbel nq
            have hboxd := hbox.below (below_drewN (qrefl wr) nq)
            go_wp2_with (at_builtin; refine wpList_append_own _ rfl _ _ 22 rfl (w.heap.size + 1) 55 i0 _ 2 32 Tryz.underlying22 hi hz0 hz1 hz2 rfl (by decide) _ _ _ rfl (hownd.alloc _) _ 1 1 [.string f.path, .string f.data] rfl rfl (cell_two _ _ _ _) (by simp [Value.oneCell']) (by unfold maxLen; (try simp); omega) (by (try simp); omega) (by simp; omega) ?_)
            intro v3 w3 hown3 hg3 _
            have hb3 : Below w.heap.size w w3 := (qtrans hbeld (qalloc _ _)).grown hg3 (by simp; omega) (fun k hk => by have := owns_block hownd hk; omega)
            have hs3 : OwnF w3 (w.heap.size + 1) v3 (pre ++ [f]) := by unfold OwnF; rw [List.length_append, fileCells_snoc]; exact hown3
            have hbox3 : CBox w3 w.heap.size 55 #[.string f.path, .string f.data] := box_grown (hboxd.alloc _) hg3 (fun e => by have := owns_block hownd e; omega)
            have HE3 := Lib.hid (files_elem (HV.out.below hb3) HH.out)
            obtain ⟨b1', o1', e1', hb1', hp1', hq1'⟩ := HE3.out
            cases e1'
            have d0 := hbox3.cell (i := 0) rfl
            have d1 := hbox3.cell (i := 1) rfl
            have hbz3 := hbox3.lt
            clear hown hownd hown3 hg3 hbox hboxd hbel hbeld c0 c1 hp1 hq1 hb1 hbz HE3
            go_wp2
            generalize nq = nq0 at *
            go_quiet (fail)
            have hownd := hs3.below (below_drewN (qrefl _) nq)
            have hbeld := below_drewN hb3 nq
            have hboxd := hbox3.below (below_drewN (qrefl _) nq)
            go_wp2_with (at_builtin; refine wpList_append_own _ rfl _ _ 22 rfl (w.heap.size + 1) 55 i0 _ 2 32 Tryz.underlying22 hi hz0 hz1 hz2 rfl (by decide) _ _ _ rfl (hownd.alloc _) _ 1 1 [.string fh.path, .string fh.data] rfl rfl (cell_two _ _ _ _) (by simp [Value.oneCell']) (by unfold maxLen; (try simp); omega) (by (try simp); omega) (by simp; omega) ?_)
            intro v4 w4 hown4 hg4 _
            have hb4 : Below w.heap.size w w4 := (qtrans hbeld (qalloc _ _)).grown hg4 (by simp; omega) (fun k hk => by have := owns_block hownd hk; omega)
            have hs4 : OwnF w4 (w.heap.size + 1) v4 ((pre ++ [f]) ++ [fh]) := by unfold OwnF; rw [fileCells_snoc]; simpa using hown4
            have hbox4 : CBox w4 w.heap.size 55 #[.string f.path, .string f.data] := box_grown (hboxd.alloc _) hg4 (fun e => by have := owns_block hownd e; omega)
            go_wp2
            go_roundw
            case rel => exact ⟨_, true, k + 1, by omega, by go_num, rfl, hs4, hbox4, hb4, HN⟩
            case measure => simp [intOf]; omega
    · have HN : Hid (withF fs f = pre ++ (if put then [] else [f])) := by
        show _ = _; rw [HD.out, List.drop_eq_nil_of_le (by omega)]; rfl
      cases put with
      | true =>
        go_wp2
        go_ret
        exact ⟨_, rfl, by rw [HN.out]; simpa using OwnF.lower hown (by omega), hbel⟩
      | false =>
        go_wp2_with (at_builtin; refine wpList_append_own _ rfl _ _ 22 rfl (w.heap.size + 1) 55 i0 _ 2 32 Tryz.underlying22 hi hz0 hz1 hz2 rfl (by decide) _ _ _ rfl (hown.alloc _) _ 1 1 [.string f.path, .string f.data] rfl rfl (cell_two _ _ _ _) (by simp [Value.oneCell']) (by unfold maxLen; omega) (by omega) (by simp; omega) ?_)
        intro v' w3 hown3 hg3 _
        have hb3 : Below w.heap.size w w3 := (qtrans hbel (qalloc _ _)).grown hg3 (by simp; omega) (fun k hk => by have := owns_block hown hk; omega)
        have hs3 : OwnF w3 (w.heap.size + 1) v' (pre ++ [f]) := by unfold OwnF; rw [List.length_append, fileCells_snoc]; exact hown3
        clear hg3 hown hown3
        go_wp2
        go_ret
        exact ⟨_, rfl, by rw [HN.out]; exact hs3.lower (by omega), hb3⟩
end Go.Proofs.YtidkpnabdfiilaaGreatDoor

namespace Go.Proofs.YtidkpnabdfiilaaGreatDoor
open Go.RowKit

/-! Changes in memory. -/
def chgCell (c : FChg) : List Value := [.string c.path, .bool c.hasOld, .bool c.hasNew, .string c.old, .string c.fresh]
def chgCells (cs : List FChg) : List Value := cs.flatMap chgCell
def chgT (c : FChg) : List Tree := [strT c.path, .leaf (.bool c.hasOld), .leaf (.bool c.hasNew), strT c.old, strT c.fresh]
def chgsT (cs : List FChg) : Tree := rowT 5 chgT cs
theorem chgCells_snoc (a : List FChg) (c : FChg) : chgCells (a ++ [c]) = chgCells a ++ chgCell c := by simp [chgCells]
theorem readsL_chgs {w : World} {X : List Nat} : ∀ {cs : List FChg} {xs : List Value}, ReadsL w X (cs.flatMap chgT) xs ↔ xs = chgCells cs
  | [], xs => by simp [ReadsL, chgCells]
  | c :: cs, xs => by
    constructor
    · intro h
      obtain ⟨x1, r1, rfl, h1, h2⟩ := ReadsL.inv (show ReadsL w X (strT c.path :: .leaf (.bool c.hasOld) :: .leaf (.bool c.hasNew) :: strT c.old :: strT c.fresh :: cs.flatMap chgT) xs from h)
      obtain ⟨x2, r2, rfl, h3, h4⟩ := ReadsL.inv h2
      obtain ⟨x3, r3, rfl, h5, h6⟩ := ReadsL.inv h4
      obtain ⟨x4, r4, rfl, h7, h8⟩ := ReadsL.inv h6
      obtain ⟨x5, r5, rfl, h9, h10⟩ := ReadsL.inv h8
      rw [Reads.leafv h1, Reads.leafv h3, Reads.leafv h5, Reads.leafv h7, Reads.leafv h9, readsL_chgs.1 h10]; rfl
    · rintro rfl
      exact ReadsL.cons (Reads.leaf' _ _ _) (ReadsL.cons (Reads.leaf' _ _ _) (ReadsL.cons (Reads.leaf' _ _ _) (ReadsL.cons (Reads.leaf' _ _ _) (ReadsL.cons (Reads.leaf' _ _ _) (readsL_chgs.2 rfl)))))
theorem reads_chgs {w : World} {cs : List FChg} {v : Value} : Reads w [] (chgsT cs) v ↔ IsRow w 5 v cs.length (chgCells cs) := by
  constructor
  · intro h
    obtain ⟨xs, h1, _, h3⟩ := Reads.toRow h
    rwa [readsL_chgs.1 h3] at h1
  · intro h
    exact Reads.ofRow h (fun _ _ _ h => by cases h) (readsL_chgs.2 rfl)
theorem chgs_val {w : World} {X : List Nat} {cs : List FChg} {v : Value} (h : Reads w X (chgsT cs) v) : ∃ (a : Option Addr) (cap : Nat), v = .slice a cs.length cap ∧ cs.length ≤ cap ∧ cap ≤ 9223372036854775807 := h.val
theorem chgs_elem {w : World} {X : List Nat} {cs : List FChg} {a : Option Addr} {cap : Nat} (h : Reads w X (chgsT cs) (.slice a cs.length cap)) {i : Nat} {c : FChg} (hi : cs[i]? = some c) :
    ∃ b o : Nat, a = some ⟨b, o, none⟩ ∧ b < w.heap.size ∧ w.cell? ⟨b, o + i * 5, none⟩ = some (.string c.path) ∧ w.cell? ⟨b, o + i * 5 + 1, none⟩ = some (.bool c.hasOld) ∧ w.cell? ⟨b, o + i * 5 + 2, none⟩ = some (.bool c.hasNew) ∧ w.cell? ⟨b, o + i * 5 + 3, none⟩ = some (.string c.old) ∧ w.cell? ⟨b, o + i * 5 + 4, none⟩ = some (.string c.fresh) := by
  obtain ⟨b, o, rfl, hb, hc⟩ := Reads.elem (f := chgT) (fun _ => rfl) h hi
  obtain ⟨u0, e0, d0⟩ := hc 0 _ rfl
  obtain ⟨u1, e1, d1⟩ := hc 1 _ rfl
  obtain ⟨u2, e2, d2⟩ := hc 2 _ rfl
  obtain ⟨u3, e3, d3⟩ := hc 3 _ rfl
  obtain ⟨u4, e4, d4⟩ := hc 4 _ rfl
  rw [Reads.leafv d0] at e0
  rw [Reads.leafv d1] at e1
  rw [Reads.leafv d2] at e2
  rw [Reads.leafv d3] at e3
  rw [Reads.leafv d4] at e4
  exact ⟨b, o, rfl, hb, e0, e1, e2, e3, e4⟩
theorem infoChg : (Tryz.prog.info? 40).map (fun i => (i.zero, i.size, i.bytes)) = some (some (.agg #[.string ⟨#[]⟩, .bool false, .bool false, .string ⟨#[]⟩, .string ⟨#[]⟩]), 5, 56) := by kernel_rfl
/-- A slice of changes that the call owns. -/
def OwnC (w : World) (base : Nat) (v : Value) (cs : List FChg) : Prop := w.ownsRow base 40 5 v cs.length (chgCells cs)
theorem OwnC.reads {w : World} {base : Nat} {v : Value} {cs : List FChg} (h : OwnC w base v cs) : Reads w [] (chgsT cs) v := reads_chgs.2 (owns_row h)
theorem OwnC.below {w w' : World} {base : Nat} {v : Value} {cs : List FChg} (h : OwnC w base v cs) (m : Below w.heap.size w w') : OwnC w' base v cs := owns_below h m
theorem OwnC.lower {w : World} {base b' : Nat} {v : Value} {cs : List FChg} (h : OwnC w base v cs) (hb : b' ≤ base) : OwnC w b' v cs := by
  obtain ⟨h1, h2⟩ := h
  refine ⟨h1, ?_⟩
  rcases h2 with h2 | ⟨g, cap, cur, a, b, c⟩
  · exact .inl h2
  · exact .inr ⟨g, cap, cur, a, Nat.le_trans hb b, c⟩
theorem OwnC.new (w : World) (base : Nat) (hb : base ≤ w.heap.size) : OwnC (w.alloc (.cells #[] 40)) base (.slice (some ⟨w.heap.size, 0, none⟩) 0 0) [] :=
  ⟨rfl, .inr ⟨w.heap.size, 0, #[], rfl, hb, World.alloc_heap_new _ _, Nat.le_refl _, Nat.zero_le _, rfl, rfl⟩⟩
theorem fold_with_len : ∀ (b l : List OFile), (b.foldl withF l).length ≤ l.length + b.length
  | [], _ => Nat.le_refl _
  | f :: b, l => by
    have h1 := fold_with_len b (withF l f)
    have h2 := with_len f false l
    rw [List.foldl_cons, List.length_cons]
    unfold withF at *
    omega
theorem fold_at {b l : List OFile} {k : Nat} {f : OFile} (h : b[k]? = some f) : (b.take (k + 1)).foldl withF l = withF ((b.take k).foldl withF l) f := by
  rw [take_at h, List.foldl_append]; rfl
theorem changes_at {a b all : List OFile} {k : Nat} {f : OFile} (h : all[k]? = some f) : (all.take (k + 1)).flatMap (pickC a b) = (all.take k).flatMap (pickC a b) ++ pickC a b f := by
  rw [take_at h, List.flatMap_append]; simp
theorem pick_len (a b : List OFile) : ∀ l : List OFile, (l.flatMap (pickC a b)).length ≤ l.length
  | [] => Nat.le_refl _
  | f :: l => by
    have := pick_len a b l
    have h1 : (pickC a b f).length ≤ 1 := by unfold pickC; split <;> simp
    rw [List.flatMap_cons, List.length_append, List.length_cons]
    omega
theorem cell_five (w : World) (x y z u v : Value) (t : TypeId) : ∀ j s, [x, y, z, u, v][j]? = some s → (w.alloc (.cells #[x, y, z, u, v] t)).cell? ((⟨w.heap.size, 0, none⟩ : Addr).add j) = some s := by
  intro j s h
  have hB := CBox.new w t #[x, y, z, u, v]
  match j, h with
  | 0, h => cases h; exact hB.cell (i := 0) rfl
  | 1, h => cases h; exact hB.cell (i := 1) rfl
  | 2, h => cases h; exact hB.cell (i := 2) rfl
  | 3, h => cases h; exact hB.cell (i := 3) rfl
  | 4, h => cases h; exact hB.cell (i := 4) rfl
  | (j + 5), h => cases h
theorem cell_five' (w : World) (x y z u v : Value) (t : TypeId) {B : Nat} (hB : w.heap.size = B) : ∀ j s, [x, y, z, u, v][j]? = some s → (w.alloc (.cells #[x, y, z, u, v] t)).cell? ((⟨B, 0, none⟩ : Addr).add j) = some s := by
  subst hB; exact cell_five w x y z u v t
set_option maxRecDepth 100000 in
set_option maxHeartbeats 4000000 in
theorem r9Changes_any (v1 v2 : Value) (a b : List OFile) (w : World) (h1 : Reads w [] (filesT a) v1) (h2 : Reads w [] (filesT b) v2) (hl : a.length + b.length ≤ 30000) :
    Calls Tryz.prog 22 #[v1, v2] w fun e w' => ∃ rv, e = .returned rv ∧ OwnC w' w.heap.size rv (changesR a b) ∧ Below w.heap.size w w' := by
  obtain ⟨a1, cap1, rfl, hc1, hd1⟩ := files_val h1
  obtain ⟨a2, cap2, rfl, hc2, hd2⟩ := files_val h2
  obtain ⟨i0, hi, hz0, hz1, hz2⟩ := info_parts infoChg
  have H1 := Lib.hid h1
  have H2 := Lib.hid h2
  clear h1 h2
  go_enter Tryz.func22, Tryz.ntmps22
  go_wp2
  go_loopw [5, 6] (fun ov iv wr => ∃ (k : Nat), k ≤ a.length ∧ iv = .int .i64 k ∧ Hid (Reads wr [] (filesT ((a.take k).foldl withF [])) ov) ∧ Below w.heap.size w wr)
    (fun _ iv _ => a.length - (intOf iv).toNat)
  case atStart => exact ⟨0, Nat.zero_le _, rfl, (OwnF.new w w.heap.size (Nat.le_refl _)).reads, qalloc _ _⟩
  case round =>
    obtain ⟨k, hk, rfl, HO, hbel⟩ := hrel
    have hk0 : (0 : Int) ≤ (k : Int) := by omega
    by_cases hkl : k < a.length
    · obtain ⟨f, hf⟩ : ∃ f, a[k]? = some f := ⟨_, List.getElem?_eq_getElem hkl⟩
      obtain ⟨b1, o1, rfl, hb1, hp1, hq1⟩ := files_elem (H1.out.below hbel) hf
      have hk1 : (k : Int) < (a.length : Int) := by omega
      have HF := Lib.hid (fold_at (l := []) hf)
      have hln : ((a.take k).foldl withF []).length ≤ 40000 := by have := fold_with_len (a.take k) []; rw [List.length_take] at this; simp at this; omega
      clear hf
      go_wp2_with (go_at_call 35; refine (r9With_any _ _ f _ HO.out hln).mono ?_; rintro e w1 ⟨rv, rfl, hr1, hbb1⟩)
      obtain ⟨ra, rc, rfl⟩ := hr1.val
      go_wp2
      go_roundw
      case rel => exact ⟨k + 1, by omega, by go_num, by rw [HF.out]; exact hr1.reads, qtrans hbel hbb1⟩
      case measure => simp [intOf]; omega
    · have hkl' : k = a.length := by omega
      subst hkl'
      rw [List.take_length] at HO
      generalize wr = wo at *
      go_wp2
      go_loopw [5, 7] (fun ov iv wr => ∃ (k : Nat), k ≤ b.length ∧ iv = .int .i64 k ∧ Hid (Reads wr [] (filesT ((b.take k).foldl withF (a.foldl withF []))) ov) ∧ Below w.heap.size w wr)
        (fun _ iv _ => b.length - (intOf iv).toNat)
      case atStart => exact ⟨0, Nat.zero_le _, rfl, HO, hbel⟩
      case round =>
        clear hbel HO
        obtain ⟨k, hk, rfl, HO, hbel⟩ := hrel
        have hk0 : (0 : Int) ≤ (k : Int) := by omega
        by_cases hkl : k < b.length
        · obtain ⟨f, hf⟩ : ∃ f, b[k]? = some f := ⟨_, List.getElem?_eq_getElem hkl⟩
          obtain ⟨b1, o1, rfl, hb1, hp1, hq1⟩ := files_elem (H2.out.below hbel) hf
          have hk1 : (k : Int) < (b.length : Int) := by omega
          have HF := Lib.hid (fold_at (l := a.foldl withF []) hf)
          have hln : ((b.take k).foldl withF (a.foldl withF [])).length ≤ 40000 := by
            have h1 := fold_with_len (b.take k) (a.foldl withF [])
            have h2 := fold_with_len a []
            rw [List.length_take] at h1; simp at h2; omega
          clear hf
          go_wp2_with (go_at_call 35; refine (r9With_any _ _ f _ HO.out hln).mono ?_; rintro e w1 ⟨rv, rfl, hr1, hbb1⟩)
          obtain ⟨ra, rc, rfl⟩ := hr1.val
          go_wp2
          go_roundw
          case rel => exact ⟨k + 1, by omega, by go_num, by rw [HF.out]; exact hr1.reads, qtrans hbel hbb1⟩
          case measure => simp [intOf]; omega
        · have hkl' : k = b.length := by omega
          subst hkl'
          rw [List.take_length] at HO
          have HC : Hid (changesR a b = (allF a b).flatMap (pickC a b)) := rfl
          have hall : (allF a b).length ≤ 40000 := by
            have h1 := fold_with_len b (a.foldl withF [])
            have h2 := fold_with_len a []
            unfold allF; simp at h2; omega
          have HO2 : Hid (Reads wr [] (filesT (allF a b)) _) := HO
          clear HO
          generalize allF a b = all at *
          generalize wr = wq at *
          obtain ⟨aa, ac, ea, hx1, hx2⟩ := files_val HO2.out
          subst ea
          have hbz := hbel.size
          go_wp2
          go_loopw [8, 9] (fun ov iv wr => ∃ (k : Nat), k ≤ all.length ∧ iv = .int .i64 k ∧ OwnC wr wq.heap.size ov ((all.take k).flatMap (pickC a b)) ∧ Below wq.heap.size wq wr)
            (fun _ iv _ => all.length - (intOf iv).toNat)
          case atStart => exact ⟨0, Nat.zero_le _, rfl, OwnC.new wq wq.heap.size (Nat.le_refl _), qalloc _ _⟩
          case round =>
            obtain ⟨k, hk, rfl, hown, hbq⟩ := hrel
            have hbzr := hbq.size
            have hbel2 := qtrans hbel hbq
            have hk0 : (0 : Int) ≤ (k : Int) := by omega
            by_cases hkl : k < all.length
            · obtain ⟨f, hf⟩ : ∃ f, all[k]? = some f := ⟨_, List.getElem?_eq_getElem hkl⟩
              obtain ⟨b1, o1, rfl, hb1, hp1, hq1⟩ := files_elem (HO2.out.below hbq) hf
              have hk1 : (k : Int) < (all.length : Int) := by omega
              have HF := Lib.hid (changes_at (a := a) (b := b) hf)
              have HFL := Lib.hid (pick_len a b (all.take k))
              clear hf
              have HA : Hid (Reads wr [] (filesT a) (.slice a1 a.length cap1)) := H1.out.below hbel2
              have HB : Hid (Reads wr [] (filesT b) (.slice a2 b.length cap2)) := H2.out.below hbel2
              go_wp2_with (fail)
              refine (r9find_any _ a f.path _ (HA.out.below (qalloc _ _))).mono ?_
              rintro e w1 ⟨rfl, rfl⟩
              go_wp2_with (fail)
              refine (r9find_any _ b f.path _ (HB.out.below (qalloc _ _))).mono ?_
              rintro e w1 ⟨rfl, rfl⟩
              have HPK : Hid (pickC a b f = if ((findB a f.path.data.toList != findB b f.path.data.toList) || !((findD a f.path.data.toList).data.toList == (findD b f.path.data.toList).data.toList)) = true then [⟨f.path, findB a f.path.data.toList, findB b f.path.data.toList, findD a f.path.data.toList, findD b f.path.data.toList⟩] else []) := rfl
              generalize findB a f.path.data.toList = ho at *
              generalize findB b f.path.data.toList = hn at *
              generalize findD a f.path.data.toList = d1 at *
              generalize findD b f.path.data.toList = d2 at *
              generalize f.path = p at *
              have HEQ : Hid ((d1.data.toList == d2.data.toList) = (d1.toList == d2.toList)) := by show _ = _; rw [tl, tl]
              have hpl : ((all.take k).flatMap (pickC a b)).length ≤ 40000 := by have := HFL.out; rw [List.length_take] at this; omega
              generalize (all.take k).flatMap (pickC a b) = pre at *
              cases heq : (d1.toList == d2.toList) with
              | true =>
                rcases ho with _ | _ <;> rcases hn with _ | _
                · have HN : Hid ((all.take (k + 1)).flatMap (pickC a b) = pre) := by show _ = _; rw [HF.out, HPK.out, HEQ.out, heq]; simp
                  clear HF HPK HEQ
                  go_wp2
                  go_roundw
                  case rel => exact ⟨k + 1, by omega, by go_num, by rw [HN.out]; exact hown.below (qalloc _ _), qtrans hbq (qalloc _ _)⟩
                  case measure => simp [intOf]; omega
                · have HN : Hid ((all.take (k + 1)).flatMap (pickC a b) = pre ++ [⟨p, false, true, d1, d2⟩]) := by show _ = _; rw [HF.out, HPK.out]; simp
                  clear HF HPK HEQ
                  go_wp2_with (at_builtin; refine wpList_append_own _ rfl _ _ 37 rfl wq.heap.size 40 i0 _ 5 56 Tryz.underlying37 hi hz0 hz1 hz2 rfl (by decide) _ _ _ rfl ((hown.alloc _).alloc _) ⟨wr.heap.size + 1, 0, none⟩ 1 1 [.string p, .bool false, .bool true, .string d1, .string d2] rfl rfl (cell_five' _ _ _ _ _ _ _ (by simp)) (by simp [Value.oneCell']) (by unfold maxLen; omega) (by omega) (by simp; omega) ?_)
                  intro v3 w3 hown3 hg3 _
                  have hbq3 : Below wq.heap.size wq w3 := (qtrans (qtrans hbq (qalloc _ _)) (qalloc _ _)).grown hg3 (by simp; omega) (fun k hk => owns_block hown hk)
                  have hs3 : OwnC w3 wq.heap.size v3 ((all.take (k + 1)).flatMap (pickC a b)) := by rw [HN.out]; unfold OwnC; rw [List.length_append, chgCells_snoc]; exact hown3
                  clear hg3 hown hown3
                  go_wp2
                  go_roundw
                  case rel => exact ⟨k + 1, by omega, by go_num, hs3, hbq3⟩
                  case measure => simp [intOf]; omega
                · have HN : Hid ((all.take (k + 1)).flatMap (pickC a b) = pre ++ [⟨p, true, false, d1, d2⟩]) := by show _ = _; rw [HF.out, HPK.out]; simp
                  clear HF HPK HEQ
                  go_wp2_with (at_builtin; refine wpList_append_own _ rfl _ _ 37 rfl wq.heap.size 40 i0 _ 5 56 Tryz.underlying37 hi hz0 hz1 hz2 rfl (by decide) _ _ _ rfl ((hown.alloc _).alloc _) ⟨wr.heap.size + 1, 0, none⟩ 1 1 [.string p, .bool true, .bool false, .string d1, .string d2] rfl rfl (cell_five' _ _ _ _ _ _ _ (by simp)) (by simp [Value.oneCell']) (by unfold maxLen; omega) (by omega) (by simp; omega) ?_)
                  intro v3 w3 hown3 hg3 _
                  have hbq3 : Below wq.heap.size wq w3 := (qtrans (qtrans hbq (qalloc _ _)) (qalloc _ _)).grown hg3 (by simp; omega) (fun k hk => owns_block hown hk)
                  have hs3 : OwnC w3 wq.heap.size v3 ((all.take (k + 1)).flatMap (pickC a b)) := by rw [HN.out]; unfold OwnC; rw [List.length_append, chgCells_snoc]; exact hown3
                  clear hg3 hown hown3
                  go_wp2
                  go_roundw
                  case rel => exact ⟨k + 1, by omega, by go_num, hs3, hbq3⟩
                  case measure => simp [intOf]; omega
                · have HN : Hid ((all.take (k + 1)).flatMap (pickC a b) = pre) := by show _ = _; rw [HF.out, HPK.out, HEQ.out, heq]; simp
                  clear HF HPK HEQ
                  go_wp2
                  go_roundw
                  case rel => exact ⟨k + 1, by omega, by go_num, by rw [HN.out]; exact hown.below (qalloc _ _), qtrans hbq (qalloc _ _)⟩
                  case measure => simp [intOf]; omega
              | false =>
                rcases ho with _ | _ <;> rcases hn with _ | _
                · have HN : Hid ((all.take (k + 1)).flatMap (pickC a b) = pre ++ [⟨p, false, false, d1, d2⟩]) := by show _ = _; rw [HF.out, HPK.out, HEQ.out, heq]; simp
                  clear HF HPK HEQ
                  go_wp2_with (at_builtin; refine wpList_append_own _ rfl _ _ 37 rfl wq.heap.size 40 i0 _ 5 56 Tryz.underlying37 hi hz0 hz1 hz2 rfl (by decide) _ _ _ rfl ((hown.alloc _).alloc _) ⟨wr.heap.size + 1, 0, none⟩ 1 1 [.string p, .bool false, .bool false, .string d1, .string d2] rfl rfl (cell_five' _ _ _ _ _ _ _ (by simp)) (by simp [Value.oneCell']) (by unfold maxLen; omega) (by omega) (by simp; omega) ?_)
                  intro v3 w3 hown3 hg3 _
                  have hbq3 : Below wq.heap.size wq w3 := (qtrans (qtrans hbq (qalloc _ _)) (qalloc _ _)).grown hg3 (by simp; omega) (fun k hk => owns_block hown hk)
                  have hs3 : OwnC w3 wq.heap.size v3 ((all.take (k + 1)).flatMap (pickC a b)) := by rw [HN.out]; unfold OwnC; rw [List.length_append, chgCells_snoc]; exact hown3
                  clear hg3 hown hown3
                  go_wp2
                  go_roundw
                  case rel => exact ⟨k + 1, by omega, by go_num, hs3, hbq3⟩
                  case measure => simp [intOf]; omega
                · have HN : Hid ((all.take (k + 1)).flatMap (pickC a b) = pre ++ [⟨p, false, true, d1, d2⟩]) := by show _ = _; rw [HF.out, HPK.out]; simp
                  clear HF HPK HEQ
                  go_wp2_with (at_builtin; refine wpList_append_own _ rfl _ _ 37 rfl wq.heap.size 40 i0 _ 5 56 Tryz.underlying37 hi hz0 hz1 hz2 rfl (by decide) _ _ _ rfl ((hown.alloc _).alloc _) ⟨wr.heap.size + 1, 0, none⟩ 1 1 [.string p, .bool false, .bool true, .string d1, .string d2] rfl rfl (cell_five' _ _ _ _ _ _ _ (by simp)) (by simp [Value.oneCell']) (by unfold maxLen; omega) (by omega) (by simp; omega) ?_)
                  intro v3 w3 hown3 hg3 _
                  have hbq3 : Below wq.heap.size wq w3 := (qtrans (qtrans hbq (qalloc _ _)) (qalloc _ _)).grown hg3 (by simp; omega) (fun k hk => owns_block hown hk)
                  have hs3 : OwnC w3 wq.heap.size v3 ((all.take (k + 1)).flatMap (pickC a b)) := by rw [HN.out]; unfold OwnC; rw [List.length_append, chgCells_snoc]; exact hown3
                  clear hg3 hown hown3
                  go_wp2
                  go_roundw
                  case rel => exact ⟨k + 1, by omega, by go_num, hs3, hbq3⟩
                  case measure => simp [intOf]; omega
                · have HN : Hid ((all.take (k + 1)).flatMap (pickC a b) = pre ++ [⟨p, true, false, d1, d2⟩]) := by show _ = _; rw [HF.out, HPK.out]; simp
                  clear HF HPK HEQ
                  go_wp2_with (at_builtin; refine wpList_append_own _ rfl _ _ 37 rfl wq.heap.size 40 i0 _ 5 56 Tryz.underlying37 hi hz0 hz1 hz2 rfl (by decide) _ _ _ rfl ((hown.alloc _).alloc _) ⟨wr.heap.size + 1, 0, none⟩ 1 1 [.string p, .bool true, .bool false, .string d1, .string d2] rfl rfl (cell_five' _ _ _ _ _ _ _ (by simp)) (by simp [Value.oneCell']) (by unfold maxLen; omega) (by omega) (by simp; omega) ?_)
                  intro v3 w3 hown3 hg3 _
                  have hbq3 : Below wq.heap.size wq w3 := (qtrans (qtrans hbq (qalloc _ _)) (qalloc _ _)).grown hg3 (by simp; omega) (fun k hk => owns_block hown hk)
                  have hs3 : OwnC w3 wq.heap.size v3 ((all.take (k + 1)).flatMap (pickC a b)) := by rw [HN.out]; unfold OwnC; rw [List.length_append, chgCells_snoc]; exact hown3
                  clear hg3 hown hown3
                  go_wp2
                  go_roundw
                  case rel => exact ⟨k + 1, by omega, by go_num, hs3, hbq3⟩
                  case measure => simp [intOf]; omega
                · have HN : Hid ((all.take (k + 1)).flatMap (pickC a b) = pre ++ [⟨p, true, true, d1, d2⟩]) := by show _ = _; rw [HF.out, HPK.out, HEQ.out, heq]; simp
                  clear HF HPK HEQ
                  go_wp2_with (at_builtin; refine wpList_append_own _ rfl _ _ 37 rfl wq.heap.size 40 i0 _ 5 56 Tryz.underlying37 hi hz0 hz1 hz2 rfl (by decide) _ _ _ rfl ((hown.alloc _).alloc _) ⟨wr.heap.size + 1, 0, none⟩ 1 1 [.string p, .bool true, .bool true, .string d1, .string d2] rfl rfl (cell_five' _ _ _ _ _ _ _ (by simp)) (by simp [Value.oneCell']) (by unfold maxLen; omega) (by omega) (by simp; omega) ?_)
                  intro v3 w3 hown3 hg3 _
                  have hbq3 : Below wq.heap.size wq w3 := (qtrans (qtrans hbq (qalloc _ _)) (qalloc _ _)).grown hg3 (by simp; omega) (fun k hk => owns_block hown hk)
                  have hs3 : OwnC w3 wq.heap.size v3 ((all.take (k + 1)).flatMap (pickC a b)) := by rw [HN.out]; unfold OwnC; rw [List.length_append, chgCells_snoc]; exact hown3
                  clear hg3 hown hown3
                  go_wp2
                  go_roundw
                  case rel => exact ⟨k + 1, by omega, by go_num, hs3, hbq3⟩
                  case measure => simp [intOf]; omega
            · have hkl' : k = all.length := by omega
              subst hkl'
              rw [List.take_length] at hown
              go_wp2
              go_ret
              exact ⟨_, rfl, by rw [HC.out]; exact hown.lower hbz, hbel2⟩
end Go.Proofs.YtidkpnabdfiilaaGreatDoor
