/- The law OwnersFiles: it returns true for every input. -/
import Derived.Test.YtgknclplheldmaaDoorGtA
import Derived.Test.YtgknclplheldmaaDoorApA
namespace Go.Proofs.YtgknclplheldmaaDoor
open Go.RowKit

/-! Plain: other files' data do not matter. -/
def otherD (d : ByteArray) (f : OFile) : OFile := if isOwn f.path.data.toList then f else ⟨f.path, d⟩
theorem otherD_path (d : ByteArray) (f : OFile) : (otherD d f).path = f.path := by unfold otherD; split <;> rfl
theorem orderBad_paths {pre pre' : List OFile} {f f' : OFile} (h : pre.map (·.path) = pre'.map (·.path)) (hf : f.path = f'.path) : orderBad pre f = orderBad pre' f' := by
  have e : pre.getLast?.map (·.path) = pre'.getLast?.map (·.path) := by rw [← List.getLast?_map, ← List.getLast?_map, h]
  unfold orderBad
  cases h1 : pre.getLast? with
  | none =>
    rw [h1] at e
    cases h2 : pre'.getLast? with
    | none => rfl
    | some b => rw [h2] at e; cases e
  | some a =>
    rw [h1] at e
    cases h2 : pre'.getLast? with
    | none => rw [h2] at e; cases e
    | some b =>
      rw [h2] at e
      have e' : a.path = b.path := by simpa using e
      simp only []
      rw [e', hf]
theorem treeFrom_paths : ∀ (fs fs' pre pre' : List OFile), fs.map (·.path) = fs'.map (·.path) → pre.map (·.path) = pre'.map (·.path) → treeFrom pre fs = treeFrom pre' fs'
  | [], fs', pre, pre', h, hp => by
    obtain rfl : fs' = [] := by simpa using h.symm
    rfl
  | f :: fs, [], pre, pre', h, hp => by cases h
  | f :: fs, f' :: fs', pre, pre', h, hp => by
    rw [List.map_cons, List.map_cons, List.cons.injEq] at h
    rw [treeFrom, treeFrom, h.1, orderBad_paths hp h.1, treeFrom_paths fs fs' (pre ++ [f]) (pre' ++ [f']) h.2 (by rw [List.map_append, List.map_append, hp, List.map_cons, List.map_cons, h.1])]
theorem inPaths_map (fs : List OFile) (x : List UInt8) : inPaths fs x = (fs.map (·.path)).any (fun p => p.data.toList == x) := by unfold inPaths; rw [List.any_map]; rfl
theorem someDir_map (fs gs : List OFile) : someDir fs gs = (gs.map (·.path)).any (fun p => (List.range p.data.toList.length).any fun i => p.data.toList.getD i 0 == 47 && (fs.map (·.path)).any (fun q => q.data.toList == p.data.toList.take i)) := by
  unfold someDir dirIn dirAt
  rw [List.any_map]
  congr 1
  funext f
  simp only [Function.comp, inPaths_map]
theorem treeErr_paths {fs fs' : List OFile} (h : fs.map (·.path) = fs'.map (·.path)) : treeErr fs = treeErr fs' := by
  have hl : fs.length = fs'.length := by have := congrArg List.length h; simpa using this
  unfold treeErr
  rw [hl, treeFrom_paths fs fs' [] [] h rfl, someDir_map, someDir_map, h]
theorem rulesStep_other (d : ByteArray) (m : ruleMap) (f : OFile) : rulesStep m (otherD d f) = rulesStep m f := by
  unfold otherD
  split
  · rfl
  · rename_i h
    have h' : isOwn f.path.data.toList = false := by simpa using h
    rw [rulesStep_skip (by show (isOwn f.path.data.toList && _) = false; rw [h']; rfl), rulesStep_skip (by rw [h']; rfl)]
theorem rulesM_other (d : ByteArray) (fs : List OFile) : rulesM (fs.map (otherD d)) = rulesM fs := by
  unfold rulesM
  rw [List.foldl_map]
  congr 1
  funext m f
  exact rulesStep_other d m f
theorem groupsOf_other (d : ByteArray) (fs : List OFile) (p : ByteArray) : groupsOf (fs.map (otherD d)) p = groupsOf fs p := by
  unfold groupsOf
  rw [rulesM_other, treeErr_paths (fs := fs.map (otherD d)) (fs' := fs) (by rw [List.map_map]; congr 1; funext f; exact otherD_path d f)]
theorem groupsOf_err {fs : List OFile} {p : ByteArray} (h : (groupsOf fs p).2 ≠ 0) : (groupsOf fs p).1 = [] := by
  unfold groupsOf at *
  split at h
  · split at h
    · exact absurd rfl h
    · rename_i h1 h2; rw [if_pos h1, if_neg h2]
  · rename_i h1; rw [if_neg h1]

/-! Files by their cells. -/
def fileCells (fs : List OFile) : List Value := fs.flatMap fun f => [.string f.path, .string f.data]
theorem fileCells_len : ∀ fs : List OFile, (fileCells fs).length = fs.length * 2
  | [] => rfl
  | f :: fs => by have := fileCells_len fs; simp [fileCells] at this ⊢; omega
theorem fileCells_one (fs : List OFile) : ∀ u ∈ fileCells fs, u.oneCell' = true := fun u hu => by
  obtain ⟨f, _, hf⟩ := List.mem_flatMap.1 hu
  simp only [List.mem_cons, List.not_mem_nil, or_false] at hf
  rcases hf with rfl | rfl <;> rfl
theorem readsL_files {w : World} {X : List Nat} : ∀ {fs : List OFile} {xs : List Value}, ReadsL w X (fs.flatMap fileT) xs ↔ xs = fileCells fs
  | [], xs => by simp [ReadsL, fileCells]
  | f :: fs, xs => by
    constructor
    · intro h
      obtain ⟨x, r, rfl, h1, h2⟩ := ReadsL.inv (show ReadsL w X (strT f.path :: strT f.data :: fs.flatMap fileT) xs from h)
      obtain ⟨y, r', rfl, h3, h4⟩ := ReadsL.inv h2
      rw [Reads.leafv h1, Reads.leafv h3, readsL_files.1 h4]; rfl
    · rintro rfl
      exact ReadsL.cons (Reads.leaf' _ _ _) (ReadsL.cons (Reads.leaf' _ _ _) (readsL_files.2 rfl))
theorem reads_files {w : World} {fs : List OFile} {v : Value} : Reads w [] (filesT fs) v ↔ IsRow w 2 v fs.length (fileCells fs) := by
  constructor
  · intro h
    obtain ⟨xs, h1, _, h3⟩ := Reads.toRow h
    rwa [readsL_files.1 h3] at h1
  · intro h
    exact Reads.ofRow h (fun _ _ _ h => by cases h) (readsL_files.2 rfl)
/-- The first k files with other data. -/
def mixF (d : ByteArray) (fs : List OFile) (k : Nat) : List OFile := (fs.take k).map (otherD d) ++ fs.drop k
theorem mixF_len (d : ByteArray) (fs : List OFile) (k : Nat) : (mixF d fs k).length = fs.length := by simp [mixF]; omega
theorem mixF_at {d : ByteArray} {fs : List OFile} {k : Nat} {f : OFile} (hf : fs[k]? = some f) : mixF d fs k = (fs.take k).map (otherD d) ++ f :: fs.drop (k + 1) ∧ mixF d fs (k + 1) = (fs.take k).map (otherD d) ++ otherD d f :: fs.drop (k + 1) := by
  obtain ⟨hk, e⟩ := List.getElem?_eq_some_iff.1 hf
  unfold mixF
  refine ⟨by rw [drop_at hf], by rw [take_at hf]; simp⟩
theorem fileCells_app (a b : List OFile) : fileCells (a ++ b) = fileCells a ++ fileCells b := by simp [fileCells]
theorem mixF_cells {d : ByteArray} {fs : List OFile} {k : Nat} {f : OFile} (hf : fs[k]? = some f) :
    (fileCells (mixF d fs k))[k * 2]? = some (.string f.path) ∧ (fileCells (mixF d fs k))[k * 2 + 1]? = some (.string f.data) ∧ (fileCells (mixF d fs k)).set (k * 2 + 1) (.string d) = fileCells ((fs.take k).map (otherD d) ++ (⟨f.path, d⟩ : OFile) :: fs.drop (k + 1)) := by
  have hk : k < fs.length := (List.getElem?_eq_some_iff.1 hf).1
  rw [(mixF_at hf).1, fileCells_app]
  have hl : (fileCells ((fs.take k).map (otherD d))).length = k * 2 := by rw [fileCells_len]; simp; omega
  have e : fileCells (f :: fs.drop (k + 1)) = .string f.path :: .string f.data :: fileCells (fs.drop (k + 1)) := rfl
  refine ⟨?_, ?_, ?_⟩
  · rw [List.getElem?_append_right (by omega), hl, e]; simp
  · rw [List.getElem?_append_right (by omega), hl, e, show k * 2 + 1 - k * 2 = 1 by omega]; rfl
  · rw [List.set_append_right _ _ (by omega), hl, e, fileCells_app]
    rw [show k * 2 + 1 - k * 2 = 1 by omega]; rfl
theorem file_any (p : ByteArray) (hp : p.size ≤ 40000) (w : World) : Calls Tryd.prog 14 #[.string p] w fun e w' => e = .returned (.bool (isOwn p.data.toList)) ∧ w = w' := by
  have HIO : Hid (isOwn p.data.toList = ((p.toList == [79, 87, 78, 69, 82, 83]) || sufOf wSlOwners p.data.toList)) := by show _ = _; rw [isOwn, tl]; rfl
  cases hq1 : (p.toList == [79, 87, 78, 69, 82, 83]) with
  | true =>
    rw [hq1] at HIO
    go_enter Tryd.func14, Tryd.ntmps14
    go_wp2
    go_ret
    exact ⟨ret_bool (by rw [HIO.out]; rfl), rfl⟩
  | false =>
    rw [hq1] at HIO
    go_enter Tryd.func14, Tryd.ntmps14
    go_wp2_with (go_at_call 30; refine (HasSuffix_any p ⟨#[47, 79, 87, 78, 69, 82, 83]⟩ _ hp (by decide)).mono ?_; rintro e w9 ⟨rfl, rfl⟩)
    go_ret
    exact ⟨ret_bool (by rw [HIO.out]; rfl), rfl⟩
theorem infoFile : (Tryd.prog.info? 35).map (fun i => (i.zero, i.size, i.bytes)) = some (some (.agg #[.string ⟨#[]⟩, .string ⟨#[]⟩]), 2, 32) := by kernel_rfl
set_option maxRecDepth 100000 in
set_option maxHeartbeats 2000000 in
theorem LOwnersFiles_any (v : Value) (fs : List OFile) (p d : ByteArray) (w : World) (hv : Reads w [] (filesT fs) v) (hz : SizedF fs) (hps : p.size ≤ 9223372036854775807) (hds : d.size ≤ 9223372036854775807) :
    Calls Tryd.prog 4 #[v, .string p, .string d] w fun e w' => e = .returned (.bool true) ∧ Below w.heap.size w w' := by
  have HG := Lib.hid (rGreat09_any v fs w hv hz)
  obtain ⟨a, cap, rfl, hc1, hc2⟩ := files_val hv
  have HV := Lib.hid hv
  clear hv hz
  cases hg : greatF fs with
  | true =>
    rw [hg] at HG
    go_enter Tryd.func4, Tryd.ntmps4
    go_wp2_with (first | (go_at_call 12; refine HG.out.mono ?_; rintro e w1 ⟨rfl, rfl⟩) | (go_at_call 8; refine (awake_any _).mono ?_; rintro e w1 ⟨rfl, hb1⟩))
    go_ret
    exact ⟨rfl, hb1⟩
  | false =>
  rw [hg] at HG
  obtain ⟨h10, hall⟩ := greatF_small hg
  clear hg
  by_cases hp : 120 < p.size
  · have hpd : decide (120 < (p.size : Int)) = true := decide_eq_true (by omega)
    go_enter Tryd.func4, Tryd.ntmps4
    go_wp2_with (first | (go_at_call 12; refine HG.out.mono ?_; rintro e w1 ⟨rfl, rfl⟩) | (go_at_call 8; refine (awake_any _).mono ?_; rintro e w1 ⟨rfl, hb1⟩))
    go_ret
    exact ⟨rfl, hb1⟩
  have hpd : decide (120 < (p.size : Int)) = false := decide_eq_false (by omega)
  by_cases hd : 60 < d.size
  · have hdd : decide (60 < (d.size : Int)) = true := decide_eq_true (by omega)
    go_enter Tryd.func4, Tryd.ntmps4
    go_wp2_with (first | (go_at_call 12; refine HG.out.mono ?_; rintro e w1 ⟨rfl, rfl⟩) | (go_at_call 8; refine (awake_any _).mono ?_; rintro e w1 ⟨rfl, hb1⟩))
    go_ret
    exact ⟨rfl, hb1⟩
  have hdd : decide (60 < (d.size : Int)) = false := decide_eq_false (by omega)
  have hsm : SmallF fs := ⟨by omega, fun f hf => by have := hall f hf; omega⟩
  have hsm2 : SmallF (fs.map (otherD d)) := ⟨by rw [List.length_map]; omega, fun f hf => by
    obtain ⟨g, hg, rfl⟩ := List.mem_map.1 hf
    have := hall g hg
    unfold otherD
    split
    · omega
    · exact ⟨by show g.path.size ≤ _; omega, by show d.size ≤ _; omega⟩⟩
  have HALL := Lib.hid hall
  have HGR := Lib.hid (Groups_any (.slice a fs.length cap) fs p w HV.out hsm (by omega))
  have HG2 := Lib.hid (fun (W : World) (mv : Value) (h : Reads W [] (filesT (fs.map (otherD d))) mv) => (Groups_any mv (fs.map (otherD d)) p W h hsm2 (by omega)).mono (fun e w' h' => by rw [groupsOf_other] at h'; exact h'))
  have HNE := Lib.hid (@groupsOf_err fs p)
  generalize groupsOf fs p = x at *
  obtain ⟨xg, xe⟩ := x
  clear hsm hsm2 hall
  by_cases hxe : xe = 0
  · subst hxe
    obtain ⟨i0, hi, hz0, hz1, hz2⟩ := info_parts infoFile
    clear HNE
    go_enter Tryd.func4, Tryd.ntmps4
    go_wp2_with (fail)
    refine HG.out.mono ?_
    rintro e w1 ⟨rfl, rfl⟩
    go_wp2_with (fail)
    refine HGR.out.mono ?_
    rintro e w2 ⟨gv, rfl, hgv, hb2⟩
    simp only [] at hgv
    obtain ⟨ga, gc, rfl, -, -⟩ := groups_val hgv
    have HGV := Lib.hid hgv
    have hrow := reads_files.1 (HV.out.below (qtrans hb2 (qalloc w2 (.cells #[] 35))))
    have hown0 : (w2.alloc (.cells #[] 35)).ownsRow w2.heap.size 35 2 (.slice (some ⟨w2.heap.size, 0, none⟩) 0 0) 0 [] := World.ownsRow_made w2 #[] 0 (Nat.le_refl _) (Nat.zero_le _) rfl
    clear hgv HG HGR
    go_wp2_with (at_builtin; refine wpList_append_row rfl _ _ 29 rfl w2.heap.size 35 i0 _ 2 32 Tryd.underlying29 hi hz0 hz1 hz2 rfl (by decide) _ _ _ rfl hown0 (.slice a fs.length cap) fs.length (fileCells fs) rfl hrow (fileCells_one fs) (by unfold maxLen; omega) (by omega) (by simp) ?_)
    intro mv w3 hown3 hg3 hbk3
    have hB3 : Below w2.heap.size w2 w3 := (qalloc w2 (.cells #[] 35)).grown hg3 (by simp) (fun k hk => by cases hk; exact Nat.le_refl _)
    obtain ⟨ma, mc, rfl⟩ := owns_val hown3
    have hmix0 : mixF d fs 0 = fs := by simp [mixF]
    have hown4 : w3.ownsRow w2.heap.size 35 2 (.slice ma fs.length mc) fs.length (fileCells (mixF d fs 0)) := by rw [hmix0]; exact hown3
    clear hg3 hbk3 hown3 hown0 hrow hmix0
    go_wp2
    go_loopw [45] (fun i wr => ∃ k : Nat, k ≤ fs.length ∧ i = .int .i64 k ∧ wr.ownsRow w2.heap.size 35 2 (.slice ma fs.length mc) fs.length (fileCells (mixF d fs k)) ∧ Below w2.heap.size w2 wr) (fun i _ => fs.length - (intOf i).toNat)
    case atStart => exact ⟨0, Nat.zero_le _, rfl, hown4, hB3⟩
    case round =>
      obtain ⟨k, hk, rfl, hown, hbr⟩ := hrel
      clear hown4 hB3
      by_cases hlt : k < fs.length
      · obtain ⟨f, hf⟩ : ∃ f, fs[k]? = some f := ⟨_, List.getElem?_eq_getElem hlt⟩
        have hsz := HALL.out f (List.mem_of_getElem? hf)
        obtain ⟨g, mc', e, hm1, hm2⟩ := owns_addr hown (by omega)
        cases e
        obtain ⟨e1, e2, e3⟩ := mixF_cells (d := d) hf
        obtain ⟨e4, e5⟩ := mixF_at (d := d) hf
        obtain ⟨c0, _, lg⟩ := owns_cell hown e1
        obtain ⟨c1, f1, _⟩ := owns_cell hown e2
        have hgb := owns_block hown (b := g) rfl
        have hi0 : (0 : Int) ≤ (k : Int) := by omega
        have hi1 : (k : Int) < (fs.length : Int) := by omega
        have hset := owns_set hown (k * 2 + 1) (.string d)
        rw [e3] at hset
        cases hio : isOwn f.path.data.toList with
        | true =>
          have hoth : otherD d f = f := by unfold otherD; rw [hio]; rfl
          rw [hoth, ← e4] at e5
          rw [← e5] at hown
          clear e1 e2 e3 e4 e5 hset hf hoth
          go_wp2_with (go_at_call 14; refine (file_any _ (by omega) _).mono ?_; rintro e w9 ⟨rfl, rfl⟩; rw [hio])
          go_roundw
          case rel => exact ⟨k + 1, by omega, by go_num, hown, hbr⟩
          case measure => simp [intOf]; omega
        | false =>
          have hoth : otherD d f = ⟨f.path, d⟩ := by unfold otherD; rw [hio]; rfl
          rw [hoth] at e5
          rw [← e5] at hset
          have HSET := Lib.hid hset
          clear e1 e2 e3 e4 e5 hset hf hoth hown
          go_wp2_with (go_at_call 14; refine (file_any _ (by omega) _).mono ?_; rintro e w9 ⟨rfl, rfl⟩; rw [hio])
          go_roundw
          case rel => exact ⟨k + 1, by omega, by go_num, HSET.out, hbr.setCell (by exact hgb) _⟩
          case measure => simp [intOf]; omega
      · have hkl : k = fs.length := by omega
        have hmx : mixF d fs k = fs.map (otherD d) := by rw [hkl]; simp [mixF]
        rw [hmx] at hown
        have HRM : Hid (Reads wr [] (filesT (fs.map (otherD d))) (.slice ma fs.length mc)) := reads_files.2 (by rw [List.length_map]; exact owns_row hown)
        clear hkl hmx hown
        go_wp2_with (fail)
        refine (HG2.out _ _ HRM.out).mono ?_
        rintro e w5 ⟨gv5, rfl, hgv5, hb5⟩
        simp only [] at hgv5
        obtain ⟨ga5, gc5, rfl, -, -⟩ := groups_val hgv5
        have H1 := Lib.hid (HGV.out.below (qtrans hbr hb5))
        have H2 := Lib.hid hgv5
        clear hgv5 HG2 HRM
        go_wp2_with (fail)
        refine (rSameGroups_eq _ _ xg _ H1.out H2.out).mono ?_
        rintro e w6 ⟨rfl, n, rfl⟩
        have hB6 := below_drewN (qtrans hb2 (qtrans hbr hb5)) n
        clear H1 H2
        generalize w5.drewN n = w6 at *
        go_wp2_with (go_at_call 8; refine (awake_any _).mono ?_; rintro e w7 ⟨rfl, hb7⟩)
        go_ret
        exact ⟨rfl, qtrans hB6 hb7⟩
  · have hxb : (xe != 0) = true := by simp [hxe]
    have hx0 : xg = [] := HNE.out hxe
    subst hx0
    clear HNE hxe
    go_enter Tryd.func4, Tryd.ntmps4
    go_wp2_with (fail)
    refine HG.out.mono ?_
    rintro e w1 ⟨rfl, rfl⟩
    go_wp2_with (fail)
    refine HGR.out.mono ?_
    rintro e w2 ⟨gv, rfl, hgv, hb2⟩
    simp only [] at hgv
    obtain ⟨ga, gc, rfl, -, -⟩ := groups_val hgv
    clear hgv HG HGR HG2
    go_wp2_with (go_at_call 8; refine (awake_any _).mono ?_; rintro e w3 ⟨rfl, hb3⟩)
    go_ret
    exact ⟨rfl, qtrans hb2 hb3⟩
end Go.Proofs.YtgknclplheldmaaDoor
