/- owners.ownersOf. owners.Groups. The chapter's example: awake. -/
import Derived.Test.YtidkpnabdfiilaaGreatDoorQ15
import Derived.Test.YtidkpnabdfiilaaGreatDoorQ08
namespace Go.Proofs.YtidkpnabdfiilaaGreatDoor
open Go.RowKit Go.Shelf
attribute [local go_sem] Oper.semAt_some

/-! Plain. -/
def fitsB (rest : List UInt8) (best : Option ORule) (r : ORule) : Bool := preOf r.pre.data.toList rest && (match best with | none => true | some b => decide (b.pre.size < r.pre.size))
def fitFrom (rest : List UInt8) : Option ORule → List ORule → Option ORule
  | best, [] => best
  | best, r :: l => fitFrom rest (if fitsB rest best r then some r else best) l
def fit (rs : List ORule) (rest : List UInt8) : Option ORule := fitFrom rest none rs
theorem fitFrom_at {rest : List UInt8} {best : Option ORule} {rs : List ORule} {k : Nat} {r : ORule} (h : rs[k]? = some r) : fitFrom rest best (rs.drop k) = fitFrom rest (if fitsB rest best r then some r else best) (rs.drop (k + 1)) := by
  rw [drop_at h, fitFrom]
def rulesAt (m : ruleMap) (p : ByteArray) (e : Nat) : List ORule := (m (fileAt p e).data.toList).getD []
def ownersFrom (m : ruleMap) (p : ByteArray) : List Nat → List (List ByteArray)
  | [] => []
  | e :: es => match fit (rulesAt m p e) (restAt p e).data.toList with
    | some r => r.groups
    | none => ownersFrom m p es
def ownersM (m : ruleMap) (p : ByteArray) : List (List ByteArray) := ownersFrom m p (dirEnds p.data.toList p.size)
theorem ownersFrom_at {m : ruleMap} {p : ByteArray} {es : List Nat} {k e : Nat} (h : es[k]? = some e) : ownersFrom m p (es.drop k) = match fit (rulesAt m p e) (restAt p e).data.toList with
    | some r => r.groups
    | none => ownersFrom m p (es.drop (k + 1)) := by
  rw [drop_at h, ownersFrom]
theorem dirArgs_get {p : ByteArray} {k : Nat} (hk : k < (dirArgs p).length) : ∃ e, (dirEnds p.data.toList p.size)[k]? = some e ∧ (dirArgs p)[k] = dirArg p e := by
  have hk' : k < (dirEnds p.data.toList p.size).length := by simpa [dirArgs] using hk
  have h : (dirArgs p)[k]? = some (dirArg p (dirEnds p.data.toList p.size)[k]) := by unfold dirArgs; rw [List.getElem?_map, List.getElem?_eq_getElem hk']; rfl
  exact ⟨_, List.getElem?_eq_getElem hk', (List.getElem?_eq_some_iff.1 h).2⟩
theorem dirArgs_len (p : ByteArray) : (dirArgs p).length = (dirEnds p.data.toList p.size).length := by simp [dirArgs]
theorem fileAt_size (p : ByteArray) (i : Nat) : (fileAt p i).size ≤ p.size + 6 := by
  rw [← sz, ← sz, fileAt, data_bOf, List.length_append, List.length_take]
  have : wOwners.length = 6 := rfl
  omega
theorem restAt_size (p : ByteArray) (i : Nat) : (restAt p i).size ≤ p.size := by
  rw [← sz, ← sz, restAt, data_bOf, List.length_drop]; omega

theorem RulesMapX.more {w : World} {X : List Nat} {b n : Nat} {g : ruleMap} (h : RulesMapX w X b n g) {k : Nat} (hk : w.heap.size ≤ k) : RulesMapX w (k :: X) b n g := by
  obtain ⟨F, h1, h2⟩ := h
  refine ⟨F, h1, fun x => ?_⟩
  have := h2 x
  revert this
  cases F x <;> cases g x <;> simp
  exact fun h => h.more hk
theorem RulesMapX.toX {w : World} {X : List Nat} {b n : Nat} {g : ruleMap} (h : RulesMapX w X b n g) : RulesMapX w ((w.heap.size + 1) :: X) b n g := h.more (by omega)
theorem RulesMapX.own {w w' : World} {row : Option Nat} (hg : w.grownBy w' row) (hr : NoCells w row) {X : List Nat} {b n : Nat} {g : ruleMap} (h : RulesMapX w X b n g) (hne : some b ≠ row) : RulesMapX w' X b n g := by
  obtain ⟨F, h1, h2⟩ := h
  refine ⟨F, h1.kept hg hne, fun x => ?_⟩
  have := h2 x
  revert this
  cases F x <;> cases g x <;> simp
  exact fun h => h.own hg hr
theorem RulesMapX.look {w : World} {X : List Nat} {b n : Nat} {g : ruleMap} (h : RulesMapX w X b n g) {s : ByteArray} (hs : s.size ≤ 40000) :
    ∃ lv, (Instr.lookup 80 (.map (some b)) (.string s) false).run Tryz.prog w = .ok lv w ∧ Reads w X (rulesT ((g s.data.toList).getD [])) lv := by
  obtain ⟨F, h1, h2⟩ := h
  refine ⟨_, h1.look strKeyed Tryz.underlying80 (Tryz.zeroValue71 w) (key_str s hs), ?_⟩
  have := h2 s.data.toList
  revert this
  cases F s.data.toList <;> cases g s.data.toList <;> simp
  · exact Reads.nilRow _ _ _ _
/-- The best rule so far, by its index. -/
def BestIs (rs : List ORule) (best : Option ORule) (v : Value) : Prop := (best = none ∧ v = .int .i64 (-1)) ∨ ∃ (j : Nat) (r : ORule), best = some r ∧ rs[j]? = some r ∧ v = .int .i64 j
set_option maxRecDepth 100000 in
set_option maxHeartbeats 2000000 in
theorem ownersOf_anyX (X : List Nat) (p : ByteArray) (hp : p.size ≤ 30000) (b n : Nat) (m : ruleMap) (hsm : ∀ x rs, m x = some rs → SmallR rs) (w : World) (hm : RulesMapX w X b n m) :
    Calls Tryz.prog 50 #[.map (some b), .string p] w fun e w' => ∃ gv, e = .returned gv ∧ Reads w' X (groupsT (ownersM m p)) gv ∧ Below w.heap.size w w' := by
  have hbl : b < w.heap.size := by obtain ⟨F, h1, _⟩ := hm; exact h1.lt
  have HSM := Lib.hid hsm
  have mixed := mixedK
  clear hsm
  refine (callsIn_wide (n := 5)).1 ?_
  refine callsIn_of_wp_marks Tryz.func50 rfl trivial ?_ rfl
  simp only [Tryz.ntmps50, List.size_toArray, List.length_cons, List.length_nil, Nat.reduceAdd, Nat.reduceSub, Array.replicate_succ, Array.replicate_zero, List.push_toArray, List.append_toArray, List.nil_append, List.cons_append]
  gi_wp2_with (refine ⟨trivial, ?_⟩; gi_at_call 83; refine (callsIn_wide.2 (directories_any _ _)).mono ?_; rintro e w' ⟨rfl, rfl⟩)
  generalize hW : ((w.alloc (.cells #[.map (some b)] 80)).alloc (.cells #[.slice none 0 0] 23)).alloc (.cells #[.string p] 9) = W0
  have hsz : W0.heap.size = w.heap.size + 3 := by rw [← hW]; simp
  have hbx : CBox W0 w.heap.size 80 #[.map (some b)] ∧ CBox W0 (w.heap.size + 1) 23 #[.slice none 0 0] ∧ CBox W0 (w.heap.size + 2) 9 #[.string p] := by
    rw [← hW]
    refine ⟨?_, ?_, ?_⟩ <;> unfold CBox <;> repeat (first | exact alloc_at _ _ (by simp) | refine alloc_old ?_)
  have hbW : Below w.heap.size w W0 := by
    rw [← hW]; exact qtrans (qtrans (qalloc _ _) (qalloc _ _)) (qalloc _ _)
  clear hW
  obtain ⟨hB0, hB1, hB2⟩ := hbx
  have hmx := hm.toX.below hbW
  have k2 := hB2.cell (i := 0) rfl
  have HSZ := Lib.hid hsz
  have hsz' : w.heap.size + 3 ≤ W0.heap.size := by omega
  have hsz'' : W0.heap.size ≤ w.heap.size + 3 := by omega
  clear hsz hm
  refine wp_iterK rfl (by omega) (gf := 126) (lb := #[.pointer (some ⟨w.heap.size + 2, 0, none⟩)]) rfl trivial (enters_of Tryz.func126 (by kernel_rfl) rfl)
    (directories1_iter p (by omega) W0 (w.heap.size + 2) k2) (fun a b c h k => k.trans h) (fun W o o' _ _ _ => World.putObj_heap_other (by omega)) (qrefl _)
    (fun k hk => by obtain ⟨c, _, e⟩ := dirArgs_get hk; rw [e]; rfl)
    (fun k W => (CBox W w.heap.size 80 #[.map (some b)] ∧ CBox W (w.heap.size + 1) 23 #[.slice none 0 0] ∧ Hid (RulesMapX W ((w.heap.size + 1) :: X) b n m)) ∧ Hid (ownersM m p = ownersFrom m p ((dirEnds p.data.toList p.size).drop k)) ∧ Below w.heap.size w W ∧ W0.heap.size ≤ W.heap.size)
    (fun c _ W => c = .ret ∧ ∃ gv, CBox W (w.heap.size + 1) 23 #[gv] ∧ Hid (Reads W X (groupsT (ownersM m p)) gv) ∧ Below w.heap.size w W)
    ?own ?ownx
    ?ab ?ia ?ixa ⟨⟨hB0, hB1, hmx⟩, rfl, hbW, Nat.le_refl _⟩
    (fun k a' _ => ∃ e, (dirEnds p.data.toList p.size)[k]? = some e ∧ a' = { tmps := #[.map (some b), .string p, .pointer (some ⟨w.heap.size, 0, none⟩), undef, .pointer (some ⟨w.heap.size + 1, 0, none⟩), .string (fileAt p e), .string (restAt p e), undef, undef, undef, undef, .string p, .func (.func 126) #[] #[.pointer (some ⟨w.heap.size + 1 + 1, 0, none⟩)], .string (fileAt p e), .string (restAt p e), undef, undef, undef, undef, undef, undef, undef, undef, undef, undef, undef, undef, undef, undef, undef, undef, undef, undef, undef, undef, undef, undef, undef, undef, undef, undef, undef, undef, undef, undef, undef, undef, undef, undef, undef, undef, undef, undef, undef], defers := [] })
    (fun _ _ _ _ _ _ hs _ _ => hs) ?assign ?body ?done ?stop
  case own =>
    rintro k A A' row ⟨⟨h1, h2, h3⟩, h4, h5, h6⟩ hg hr
    have hn : NoCells A row := fun r e => (hr r e).2
    exact ⟨⟨h1.own hg hn, h2.own hg hn, h3.out.own hg hn (fun e => by have := (hr b e.symm).1; omega)⟩, h4, h5.grown hg h5.size (fun r e => by have := (hr r e).1; omega), Nat.le_trans h6 hg.size⟩
  case ownx =>
    rintro c k A A' row ⟨h0, gv, h1, h2, h3⟩ hg hr
    have hn : NoCells A row := fun r e => (hr r e).2
    exact ⟨h0, gv, h1.own hg hn, h2.out.own hg hn, h3.grown hg h3.size (fun r e => by have := (hr r e).1; omega)⟩
  case ab =>
    rintro A A' ⟨n, rfl⟩ k o hk ho _
    exact ho
  case ia =>
    rintro k A A' ⟨⟨h1, h2, h3⟩, h4, h5, h6⟩ ⟨n, rfl⟩
    have hb := below_drewN (qrefl A) n
    exact ⟨⟨h1.below hb, h2.below hb, h3.out.below hb⟩, h4, below_drewN h5 n, h6⟩
  case ixa =>
    rintro c k A A' ⟨h0, gv, h1, h2, h3⟩ ⟨n, rfl⟩
    have hb := below_drewN (qrefl A) n
    exact ⟨h0, gv, h1.below hb, h2.out.below hb, below_drewN h3 n⟩
  case assign =>
    intro l' k hk W K hi hK
    obtain ⟨e, he, ee⟩ := dirArgs_get hk
    rw [ee]
    simp only [dirArg]
    have HE := Lib.hid he
    clear he ee
    gi_wp2
    exact hK _ _ (KeepsFrom.refl _ _) rfl hi ⟨e, HE.out, rfl⟩
  case body =>
    rintro l' k hk a' W ⟨⟨hb0, hb1, HMX⟩, HO, hbel, hbz⟩ ⟨e, he, rfl⟩
    have HO2 := Lib.hid (HO.out.trans (ownersFrom_at he))
    have hfs := fileAt_size p e
    have hrs := restAt_size p e
    obtain ⟨lv, hlook, hrd⟩ := HMX.out.look (s := fileAt p e) (by omega)
    have hsr : SmallR (rulesAt m p e) := by
      unfold rulesAt
      cases hq : m (fileAt p e).data.toList with
      | none => exact ⟨Nat.zero_le _, fun r hr => by cases hr⟩
      | some rs => exact HSM.out _ _ hq
    have hrd' : Reads W ((w.heap.size + 1) :: X) (rulesT (rulesAt m p e)) lv := hrd
    clear hrd HO
    generalize rulesAt m p e = rs at *
    generalize hfl : fileAt p e = fl at *
    generalize hrst : restAt p e = rst at *
    clear hfl hrst he
    obtain ⟨la, lc, rfl, hl1, hl2⟩ := rules_val hrd'
    have HRD := Lib.hid hrd'
    have hlen := hsr.len
    have HSR := Lib.hid hsr
    have c0 := hb0.cell (i := 0) rfl
    have hW1 : w.heap.size + 3 ≤ W.heap.size := by omega
    clear hrd' hsr
    gi_wp2
    gi_loopw [20, 7] (fun i bv wr => ∃ (q : Nat) (best : Option ORule), q ≤ rs.length ∧ i = .int .i64 q ∧ Hid (BestIs rs best bv) ∧ Below W.heap.size W wr ∧ Hid (fit rs rst.data.toList = fitFrom rst.data.toList best (rs.drop q))) (fun i _ _ => rs.length - (intOf i).toNat)
    case atStart => exact ⟨0, none, Nat.zero_le _, rfl, .inl ⟨rfl, rfl⟩, qrefl _, rfl⟩
    case round =>
      obtain ⟨q, best, hq, rfl, HB, hbq, HF⟩ := hrel
      by_cases hql : q < rs.length
      · obtain ⟨r, hr⟩ : ∃ r, rs[q]? = some r := ⟨_, List.getElem?_eq_getElem hql⟩
        have HF2 := Lib.hid (HF.out.trans (fitFrom_at hr))
        have hrp := (HSR.out.each r (List.mem_of_getElem? hr)).1
        obtain ⟨lb, lo, ag, cg, rfl, hlb, hcp, hcg, -, -, -⟩ := rules_elem (HRD.out.below hbq) hr
        have HR := Lib.hid hr
        have hA := qalloc wr (.cells #[.string r.pre, .slice ag r.groups.length cg] 75)
        have HBA : Hid (Below W.heap.size W (wr.alloc (.cells #[.string r.pre, .slice ag r.groups.length cg] 75))) := qtrans hbq hA
        have hbd : Hid (Below W.heap.size W (wr.alloc (.cells #[.string r.pre, .slice ag r.groups.length cg] 75)).drew) := (qtrans hbq hA).drew
        clear hr HF
        have hq0 : (0 : Int) ≤ (q : Int) := by omega
        have hq1 : (q : Int) < (rs.length : Int) := by omega
        rcases HB.out with ⟨rfl, rfl⟩ | ⟨j, br, rfl, hj, rfl⟩
        · cases hpre : preOf r.pre.data.toList rst.data.toList with
          | false =>
            have HF3 : Hid (fit rs rst.data.toList = fitFrom rst.data.toList none (rs.drop (q + 1))) := by
              show _ = _; rw [HF2.out]; unfold fitsB; rw [hpre]; rfl
            have HPRE := Lib.hid hpre
            clear hpre
            gi_wp2
            have hbx := (CBox.new wr 75 #[.string r.pre, .slice ag r.groups.length cg]).cell (i := 0) rfl
            generalize wr.alloc (.cells #[.string r.pre, .slice ag r.groups.length cg] 75) = wa at *
            have hbxd : wa.drew.cell? ⟨wr.heap.size, 0, none⟩ = some (.string r.pre) := hbx
            refine region_lexR (fun W => W.cell? ⟨wr.heap.size, 0, none⟩ = some (.string r.pre)) [true, true, true, false, true, true, true, true, true, true, true, true, true, true, true, true, true, true, true, true] mixedK (by kernel_rfl) (by kernel_rfl) hbxd (fun hHeld => ?_)
            iterate 3 (first | (refine lex_skip (by rfl) ?_; (try simp only [Act.put, List.setIfInBounds_toArray, List.set_cons_zero, List.set_cons_succ])) | (refine lex_take (v := ?_) (by rfl) ?_ ?_; rotate_left; (focus (intro wq hSw; (try dsimp only at hSw); go_simp; (try with_reducible rfl))); (try simp only [Act.put, List.setIfInBounds_toArray, List.set_cons_zero, List.set_cons_succ])))
            (refine lex_do (by rfl) (fun K hK => ?_); go_simp)
            refine (HasPrefix_any _ _ _).mono ?_
            rintro e w' ⟨rfl, rfl⟩
            rw [HPRE.out]
            refine hK.out _ _ hHeld (fun hHeld1 => ?_)
            clear hK K hHeld
            (try simp only [Act.put, List.setIfInBounds_toArray, List.set_cons_zero, List.set_cons_succ])
            iterate 16 (first | (refine lex_skip (by rfl) ?_; (try simp only [Act.put, List.setIfInBounds_toArray, List.set_cons_zero, List.set_cons_succ])) | (refine lex_take (v := ?_) (by rfl) ?_ ?_; rotate_left; (focus (intro wq hSw; (try dsimp only at hSw); go_simp; (try with_reducible rfl))); (try simp only [Act.put, List.setIfInBounds_toArray, List.set_cons_zero, List.set_cons_succ])))
            refine lex_end (OnlyN.mk ?_)
            gi_wp2
            go_roundw
            case rel => exact ⟨q + 1, none, by omega, by go_num, HB, hbd.out, HF3⟩
            case measure => simp [intOf]; omega
          | true =>
            have HF3 : Hid (fit rs rst.data.toList = fitFrom rst.data.toList (some r) (rs.drop (q + 1))) := by
              show _ = _; rw [HF2.out]; unfold fitsB; rw [hpre]; rfl
            have HPRE := Lib.hid hpre
            clear hpre
            gi_wp2
            have hbx := (CBox.new wr 75 #[.string r.pre, .slice ag r.groups.length cg]).cell (i := 0) rfl
            generalize wr.alloc (.cells #[.string r.pre, .slice ag r.groups.length cg] 75) = wa at *
            have hbxd : wa.drew.cell? ⟨wr.heap.size, 0, none⟩ = some (.string r.pre) := hbx
            refine region_lexR (fun W => W.cell? ⟨wr.heap.size, 0, none⟩ = some (.string r.pre)) [true, true, true, false, true, true, true, true, true, true, true, true, true, true, true, true, true, true, true, true] mixedK (by kernel_rfl) (by kernel_rfl) hbxd (fun hHeld => ?_)
            iterate 3 (first | (refine lex_skip (by rfl) ?_; (try simp only [Act.put, List.setIfInBounds_toArray, List.set_cons_zero, List.set_cons_succ])) | (refine lex_take (v := ?_) (by rfl) ?_ ?_; rotate_left; (focus (intro wq hSw; (try dsimp only at hSw); go_simp; (try with_reducible rfl))); (try simp only [Act.put, List.setIfInBounds_toArray, List.set_cons_zero, List.set_cons_succ])))
            (refine lex_do (by rfl) (fun K hK => ?_); go_simp)
            refine (HasPrefix_any _ _ _).mono ?_
            rintro e w' ⟨rfl, rfl⟩
            rw [HPRE.out]
            refine hK.out _ _ hHeld (fun hHeld1 => ?_)
            clear hK K hHeld
            (try simp only [Act.put, List.setIfInBounds_toArray, List.set_cons_zero, List.set_cons_succ])
            iterate 16 (first | (refine lex_skip (by rfl) ?_; (try simp only [Act.put, List.setIfInBounds_toArray, List.set_cons_zero, List.set_cons_succ])) | (refine lex_take (v := ?_) (by rfl) ?_ ?_; rotate_left; (focus (intro wq hSw; (try dsimp only at hSw); go_simp; (try with_reducible rfl))); (try simp only [Act.put, List.setIfInBounds_toArray, List.set_cons_zero, List.set_cons_succ])))
            refine lex_end (OnlyN.mk ?_)
            gi_wp2
            go_roundw
            case rel => exact ⟨q + 1, some r, by omega, by go_num, .inr ⟨q, r, rfl, HR.out, rfl⟩, hbd.out, HF3⟩
            case measure => simp [intOf]; omega
        · obtain ⟨lb', lo', ag', cg', e', -, hcb, -, -, -, -⟩ := rules_elem (HRD.out.below hbq) hj
          cases e'
          have hjl : j < rs.length := (List.getElem?_eq_some_iff.1 hj).1
          have hj0 : (0 : Int) ≤ (j : Int) := by omega
          have hj1 : (j : Int) < (rs.length : Int) := by omega
          have hjd : decide ((j : Int) < 0) = false := by simp
          have hlbA : (wr.alloc (.cells #[.string r.pre, .slice ag r.groups.length cg] 75)).cell? ⟨lb, lo + j * 2, none⟩ = some (.string br.pre) := (hA.cell (p := ⟨lb, lo + j * 2, none⟩) hlb).trans hcb
          have HJ := Lib.hid hj
          clear hj hcb
          cases hpre : preOf r.pre.data.toList rst.data.toList with
          | false =>
            have HF3 : Hid (fit rs rst.data.toList = fitFrom rst.data.toList (some br) (rs.drop (q + 1))) := by
              show _ = _; rw [HF2.out]; unfold fitsB; rw [hpre]; rfl
            have HPRE := Lib.hid hpre
            clear hpre hlbA
            gi_wp2
            have hbx := (CBox.new wr 75 #[.string r.pre, .slice ag r.groups.length cg]).cell (i := 0) rfl
            generalize wr.alloc (.cells #[.string r.pre, .slice ag r.groups.length cg] 75) = wa at *
            have hbxd : wa.drew.cell? ⟨wr.heap.size, 0, none⟩ = some (.string r.pre) := hbx
            refine region_lexR (fun W => W.cell? ⟨wr.heap.size, 0, none⟩ = some (.string r.pre)) [true, true, true, false, true, true, true, true, true, true, true, true, true, true, true, true, true, true, true, true] mixedK (by kernel_rfl) (by kernel_rfl) hbxd (fun hHeld => ?_)
            iterate 3 (first | (refine lex_skip (by rfl) ?_; (try simp only [Act.put, List.setIfInBounds_toArray, List.set_cons_zero, List.set_cons_succ])) | (refine lex_take (v := ?_) (by rfl) ?_ ?_; rotate_left; (focus (intro wq hSw; (try dsimp only at hSw); go_simp; (try with_reducible rfl))); (try simp only [Act.put, List.setIfInBounds_toArray, List.set_cons_zero, List.set_cons_succ])))
            (refine lex_do (by rfl) (fun K hK => ?_); go_simp)
            refine (HasPrefix_any _ _ _).mono ?_
            rintro e w' ⟨rfl, rfl⟩
            rw [HPRE.out]
            refine hK.out _ _ hHeld (fun hHeld1 => ?_)
            clear hK K hHeld
            (try simp only [Act.put, List.setIfInBounds_toArray, List.set_cons_zero, List.set_cons_succ])
            iterate 16 (first | (refine lex_skip (by rfl) ?_; (try simp only [Act.put, List.setIfInBounds_toArray, List.set_cons_zero, List.set_cons_succ])) | (refine lex_take (v := ?_) (by rfl) ?_ ?_; rotate_left; (focus (intro wq hSw; (try dsimp only at hSw); go_simp; (try with_reducible rfl))); (try simp only [Act.put, List.setIfInBounds_toArray, List.set_cons_zero, List.set_cons_succ])))
            refine lex_end (OnlyN.mk ?_)
            gi_wp2
            go_roundw
            case rel => exact ⟨q + 1, some br, by omega, by go_num, HB, hbd.out, HF3⟩
            case measure => simp [intOf]; omega
          | true =>
            have HF3 : Hid (fit rs rst.data.toList = fitFrom rst.data.toList (if decide (br.pre.size < r.pre.size) then some r else some br) (rs.drop (q + 1))) := by
              show _ = _; rw [HF2.out]; unfold fitsB; rw [hpre]; rfl
            have HPRE := Lib.hid hpre
            clear hpre
            cases hlong : decide (br.pre.size < r.pre.size) with
            | true =>
              have hlt : br.pre.size < r.pre.size := of_decide_eq_true hlong
              rw [hlong] at HF3
              gi_wp2
              have hbx := (CBox.new wr 75 #[.string r.pre, .slice ag r.groups.length cg]).cell (i := 0) rfl
              generalize wr.alloc (.cells #[.string r.pre, .slice ag r.groups.length cg] 75) = wa at *
              have hbxd : wa.drew.cell? ⟨wr.heap.size, 0, none⟩ = some (.string r.pre) ∧ wa.drew.cell? ⟨lb, lo + j * 2, none⟩ = some (.string br.pre) := ⟨hbx, hlbA⟩
              refine region_lexR (fun W => W.cell? ⟨wr.heap.size, 0, none⟩ = some (.string r.pre) ∧ W.cell? ⟨lb, lo + j * 2, none⟩ = some (.string br.pre)) [true, true, true, false, true, true, true, true, true, true, true, true, true, true, true, true, true, true, true, true] mixedK (by kernel_rfl) (by kernel_rfl) hbxd (fun hHeld => ?_)
              iterate 3 (first | (refine lex_skip (by rfl) ?_; (try simp only [Act.put, List.setIfInBounds_toArray, List.set_cons_zero, List.set_cons_succ])) | (refine lex_take (v := ?_) (by rfl) ?_ ?_; rotate_left; (focus (intro wq hSw; (try dsimp only at hSw); go_simp; (try with_reducible rfl))); (try simp only [Act.put, List.setIfInBounds_toArray, List.set_cons_zero, List.set_cons_succ])))
              (refine lex_do (by rfl) (fun K hK => ?_); go_simp)
              refine (HasPrefix_any _ _ _).mono ?_
              rintro e w' ⟨rfl, rfl⟩
              rw [HPRE.out]
              refine hK.out _ _ hHeld (fun hHeld1 => ?_)
              clear hK K hHeld
              (try simp only [Act.put, List.setIfInBounds_toArray, List.set_cons_zero, List.set_cons_succ])
              iterate 16 (first | (refine lex_skip (by rfl) ?_; (try simp only [Act.put, List.setIfInBounds_toArray, List.set_cons_zero, List.set_cons_succ])) | (refine lex_take (v := ?_) (by rfl) ?_ ?_; rotate_left; (focus (intro wq hSw; (try dsimp only at hSw); go_simp; (try with_reducible rfl))); (try simp only [Act.put, List.setIfInBounds_toArray, List.set_cons_zero, List.set_cons_succ])))
              refine lex_end (OnlyN.mk ?_)
              gi_wp2
              go_roundw
              case rel => exact ⟨q + 1, some r, by omega, by go_num, .inr ⟨q, r, rfl, HR.out, rfl⟩, hbd.out, HF3⟩
              case measure => simp [intOf]; omega
            | false =>
              have hlt : ¬ br.pre.size < r.pre.size := of_decide_eq_false hlong
              rw [hlong] at HF3
              gi_wp2
              have hbx := (CBox.new wr 75 #[.string r.pre, .slice ag r.groups.length cg]).cell (i := 0) rfl
              generalize wr.alloc (.cells #[.string r.pre, .slice ag r.groups.length cg] 75) = wa at *
              have hbxd : wa.drew.cell? ⟨wr.heap.size, 0, none⟩ = some (.string r.pre) ∧ wa.drew.cell? ⟨lb, lo + j * 2, none⟩ = some (.string br.pre) := ⟨hbx, hlbA⟩
              refine region_lexR (fun W => W.cell? ⟨wr.heap.size, 0, none⟩ = some (.string r.pre) ∧ W.cell? ⟨lb, lo + j * 2, none⟩ = some (.string br.pre)) [true, true, true, false, true, true, true, true, true, true, true, true, true, true, true, true, true, true, true, true] mixedK (by kernel_rfl) (by kernel_rfl) hbxd (fun hHeld => ?_)
              iterate 3 (first | (refine lex_skip (by rfl) ?_; (try simp only [Act.put, List.setIfInBounds_toArray, List.set_cons_zero, List.set_cons_succ])) | (refine lex_take (v := ?_) (by rfl) ?_ ?_; rotate_left; (focus (intro wq hSw; (try dsimp only at hSw); go_simp; (try with_reducible rfl))); (try simp only [Act.put, List.setIfInBounds_toArray, List.set_cons_zero, List.set_cons_succ])))
              (refine lex_do (by rfl) (fun K hK => ?_); go_simp)
              refine (HasPrefix_any _ _ _).mono ?_
              rintro e w' ⟨rfl, rfl⟩
              rw [HPRE.out]
              refine hK.out _ _ hHeld (fun hHeld1 => ?_)
              clear hK K hHeld
              (try simp only [Act.put, List.setIfInBounds_toArray, List.set_cons_zero, List.set_cons_succ])
              iterate 16 (first | (refine lex_skip (by rfl) ?_; (try simp only [Act.put, List.setIfInBounds_toArray, List.set_cons_zero, List.set_cons_succ])) | (refine lex_take (v := ?_) (by rfl) ?_ ?_; rotate_left; (focus (intro wq hSw; (try dsimp only at hSw); go_simp; (try with_reducible rfl))); (try simp only [Act.put, List.setIfInBounds_toArray, List.set_cons_zero, List.set_cons_succ])))
              refine lex_end (OnlyN.mk ?_)
              gi_wp2
              go_roundw
              case rel => exact ⟨q + 1, some br, by omega, by go_num, HB, hbd.out, HF3⟩
              case measure => simp [intOf]; omega
      · have HF2 : Hid (fit rs rst.data.toList = best) := by
          show _ = _; rw [HF.out, List.drop_eq_nil_of_le (by omega)]; rfl
        have hbk := hbel.trans (hbq.mono hbel.size)
        rcases HB.out with ⟨rfl, rfl⟩ | ⟨j, br, rfl, hj, rfl⟩
        · have HO3 : Hid (ownersM m p = ownersFrom m p ((dirEnds p.data.toList p.size).drop (k + 1))) := by show _ = _; rw [HO2.out, HF2.out]
          gi_wp2
          exact ⟨keeps_of_below hbq, hbq.block _ (by omega), ⟨hb0.below hbq, hb1.below hbq, HMX.out.below hbq⟩, HO3, hbk, Nat.le_trans hbz hbq.size⟩
        · obtain ⟨lb', lo', ag', cg', rfl, hlb', hcb, hcg, -, -, HG⟩ := rules_elem (HRD.out.below hbq) hj
          have hjl : j < rs.length := (List.getElem?_eq_some_iff.1 hj).1
          have hj0 : (0 : Int) ≤ (j : Int) := by omega
          have hj1 : (j : Int) < (rs.length : Int) := by omega
          have HO3 : Hid (ownersM m p = br.groups) := by show _ = _; rw [HO2.out, HF2.out]
          have r1 := (hb1.below hbq).cell (i := 0) rfl
          have f1 := (hb1.below hbq).frozen 0
          have z1 := (hb1.below hbq).lt
          clear hj hcb
          gi_wp2
          have M1 : Mod ((w.heap.size + 1) :: X) wr (wr.setCell ⟨w.heap.size + 1, 0, none⟩ (.slice ag' br.groups.length cg')) := (Mod.refl _ _).setCell (by simp) _
          exact ⟨(keeps_of_below hbq).trans ((KeepsOthers.setCell _ _ _).from _), rfl, _, (hb1.below hbq).set 0 _, by rw [HO3.out]; exact (HG.out.mod M1).fewer (fun k hk => List.mem_cons_of_mem _ hk), hbk.setCell (by show w.heap.size ≤ w.heap.size + 1; omega) _⟩
  case done =>
    rintro D W hD ⟨⟨hb0, hb1, HMX⟩, HO, hbel, hbz⟩ hK
    have HO2 : Hid (ownersM m p = []) := by
      show _ = _
      rw [HO.out, dirArgs_len, List.drop_length]; rfl
    have r1 := hb1.cell (i := 0) rfl
    have f1 := hb1.frozen 0
    have z1 := hb1.lt
    gi_wp2
    have hK2 := (KeepsOthers.setCell W ⟨w.heap.size + 1, 0, none⟩ (.slice none 0 0)).same D _ hK rfl
    refine ⟨by simp, .inl ⟨_, _, rfl, run_takeDeferred hK2, ?_⟩⟩
    have hc2 := ((hb1.set 0 (.slice none 0 0)).own (grownBy_putObj' _ D (.deferred none)) (fun r e => by cases e; exact ⟨_, hK2, rfl⟩)).cell (i := 0) rfl
    have hB2 : Below w.heap.size w ((W.setCell ⟨w.heap.size + 1, 0, none⟩ (.slice none 0 0)).putObj D (.deferred none)) :=
      (hbel.setCell (p := ⟨w.heap.size + 1, 0, none⟩) (by show w.heap.size ≤ w.heap.size + 1; omega) (.slice none 0 0)).trans (belowK_b (w := w) (Nat.le_refl _) _ D _ _ (by omega) hK2 rfl rfl)
    refine ⟨.slice none 0 0, by simp [results, Tryz.results50, go_sem, hc2], ?_⟩
    rw [HO2.out]
    exact ⟨_, rfl, Reads.nilRow _ _ _ _, hB2⟩
  case stop =>
    rintro D c k W hD hk ⟨rfl, gv, hb1, HG, hbel⟩ hK
    gi_wp2
    refine ⟨by simp, .inl ⟨_, _, rfl, run_takeDeferred hK, ?_⟩⟩
    have hn : NoCells W (some D) := fun r e => by cases e; exact ⟨_, hK, rfl⟩
    have hc2 := (hb1.own (grownBy_putObj' _ D (.deferred none)) hn).cell (i := 0) rfl
    have hB2 : Below w.heap.size w (W.putObj D (.deferred none)) := hbel.trans (belowK_b (w := w) (Nat.le_refl _) _ D _ _ (by omega) hK rfl rfl)
    have hG2 := HG.out.own (grownBy_putObj' W D (.deferred none)) hn
    obtain ⟨ga, gc, rfl, -, -⟩ := groups_val HG.out
    refine ⟨.slice ga (ownersM m p).length gc, by simp [results, Tryz.results50, go_sem, hc2], ?_⟩
    exact ⟨_, rfl, hG2, hB2⟩
theorem ownersOf_any (p : ByteArray) (hp : p.size ≤ 30000) (b n : Nat) (m : ruleMap) (hsm : ∀ x rs, m x = some rs → SmallR rs) (w : World) (hm : RulesMap w b n m) :
    Calls Tryz.prog 50 #[.map (some b), .string p] w fun e w' => ∃ gv, e = .returned gv ∧ Reads w' [] (groupsT (ownersM m p)) gv ∧ Below w.heap.size w w' := ownersOf_anyX [] p hp b n m hsm w hm
end Go.Proofs.YtidkpnabdfiilaaGreatDoor

namespace Go.Proofs.YtidkpnabdfiilaaGreatDoor
open Go.RowKit

def groupsOf (fs : List OFile) (p : ByteArray) : List (List ByteArray) × Int :=
  if treeErr fs = 0 then (if treeErr [⟨p, ⟨#[]⟩⟩] = 0 then (ownersM (rulesM fs) p, 0) else ([], 6)) else ([], treeErr fs)
theorem readAll_small : ∀ (ws : OWords) {p K : Nat} {rs : List ORule} {p' : Nat} {rs' : List ORule}, (∀ x ∈ ws, x.1.size ≤ 40000) → OkP p rs → Bnd K rs → readAll p rs ws = .ok (p', rs') → Bnd (K + ws.length) rs'
  | [], p, K, rs, p', rs', _, _, hB, h => by rw [readAll] at h; cases h; exact hB
  | x :: ws, p, K, rs, p', rs', hs, ho, hB, h => by
    rw [readAll] at h
    cases hr : readW p rs x.1 with
    | none => rw [hr] at h; cases h
    | some q =>
      rw [hr] at h
      obtain ⟨h1, h2⟩ := readW_keeps hr ho hB (hs x (List.mem_cons_self ..))
      have := readAll_small ws (fun y hy => hs y (List.mem_cons_of_mem _ hy)) h1 h2 h
      rw [List.length_cons, show K + (ws.length + 1) = K + 1 + ws.length by omega]
      exact this
theorem oparse_small {s : ByteArray} (hs : s.size ≤ 40000) : SmallR (oparse s).1 := by
  have hw := words_small s hs
  have nil : SmallR ([] : List ORule) := ⟨Nat.zero_le _, fun r hr => by cases hr⟩
  unfold oparse
  cases h : readAll 0 [] (wordsOf s) with
  | error i => exact nil
  | ok q =>
    obtain ⟨p, rs⟩ := q
    simp only []
    split
    · split
      · have := readAll_small (K := 0) (wordsOf s) (fun x hx => (hw.each x hx).1) ⟨by omega, by omega, by omega⟩ ⟨Nat.zero_le _, fun r hr => by cases hr⟩ h
        exact this.small (by have := hw.len; omega)
      · exact nil
    · exact nil
theorem rulesM_small {fs : List OFile} (hs : SmallF fs) : ∀ x rs, rulesM fs x = some rs → SmallR rs := by
  have key : ∀ (l : List OFile) (m : ruleMap), (∀ f ∈ l, f.data.size ≤ 40000) → (∀ x rs, m x = some rs → SmallR rs) → ∀ x rs, l.foldl rulesStep m x = some rs → SmallR rs := by
    intro l
    induction l with
    | nil => intro m _ hm; exact hm
    | cons f l ih =>
      intro m hl hm
      refine ih _ (fun g hg => hl g (List.mem_cons_of_mem _ hg)) (fun x rs h => ?_)
      unfold rulesStep at h
      split at h
      · cases h; exact oparse_small (hl f (List.mem_cons_self ..))
      · exact hm x rs h
  exact key fs _ (fun f hf => (hs.each f hf).2) (fun x rs h => by cases h)
theorem one_file (w : World) (p : ByteArray) : Reads (w.alloc (.cells #[.string p, .string ⟨#[]⟩] 55)) [] (filesT [⟨p, ⟨#[]⟩⟩]) (.slice (some ⟨w.heap.size, 0, none⟩) 1 1) := by
  have hB := CBox.new w 55 #[.string p, .string ⟨#[]⟩]
  refine Reads.ofRow (xs := [.string p, .string ⟨#[]⟩]) ⟨rfl, _, _, rfl, Nat.le_refl _, by unfold maxLen; omega, fun _ => ⟨w.heap.size, 0, rfl, hB.lt, fun j u hj => ?_⟩⟩ (fun _ _ _ h => by cases h) ?_
  · match j, hj with
    | 0, hj => cases hj; exact hB.cell (i := 0) rfl
    | 1, hj => cases hj; exact hB.cell (i := 1) rfl
    | (j + 2), hj => cases hj
  · exact ReadsL.cons (Reads.leaf' _ _ _) (ReadsL.cons (Reads.leaf' _ _ _) (ReadsL.nil _ _))
def GroupsPostX (X : List Nat) (x : List (List ByteArray) × Int) (w : World) (e : Ending) (w' : World) : Prop := ∃ gv, e = .returned (.tuple #[gv, .int .i64 x.2]) ∧ Reads w' X (groupsT x.1) gv ∧ Below w.heap.size w w'
def GroupsPost (x : List (List ByteArray) × Int) (w : World) (e : Ending) (w' : World) : Prop := ∃ gv, e = .returned (.tuple #[gv, .int .i64 x.2]) ∧ Reads w' [] (groupsT x.1) gv ∧ Below w.heap.size w w'
set_option maxRecDepth 100000 in
set_option maxHeartbeats 1000000 in
theorem Groups_anyX (v : Value) (fs : List OFile) (p : ByteArray) (w : World) (hv : Reads w [] (filesT fs) v) (hs : SmallF fs) (hp : p.size ≤ 30000) :
    Calls Tryz.prog 23 #[v, .string p] w (GroupsPostX (List.range w.heap.size) (groupsOf fs p) w) := by
  have HV := Lib.hid hv
  have HS := Lib.hid hs
  obtain ⟨va, vc, rfl, -, -⟩ := files_val hv
  have hs1 : SmallF [⟨p, ⟨#[]⟩⟩] := ⟨by simp, fun f hf => by rw [List.mem_singleton.1 hf]; exact ⟨by show p.size ≤ _; omega, Nat.zero_le _⟩⟩
  have HS1 := Lib.hid hs1
  clear hv hs hs1
  have HG : Hid (groupsOf fs p = if treeErr fs = 0 then (if treeErr [⟨p, ⟨#[]⟩⟩] = 0 then (ownersM (rulesM fs) p, 0) else ([], 6)) else ([], treeErr fs)) := rfl
  have HC := Lib.hid (treeCheck_any _ fs w HV.out HS.out)
  generalize hq : treeErr fs = q at *
  have HQ := Lib.hid hq
  clear hq
  by_cases h0 : q = 0
  · have hqb : (q != 0) = false := by simp [h0]
    have HG2 : Hid (groupsOf fs p = if treeErr [⟨p, ⟨#[]⟩⟩] = 0 then (ownersM (rulesM fs) p, 0) else ([], 6)) := by show _ = _; rw [HG.out, if_pos h0]
    clear h0 HG
    have HC1 := Lib.hid (fun W hr => treeCheck_any (.slice (some ⟨W, 0, none⟩) 1 1) [⟨p, ⟨#[]⟩⟩] hr)
    generalize hr : treeErr [⟨p, ⟨#[]⟩⟩] = r at *
    have HR := Lib.hid hr
    clear hr
    by_cases h1 : r = 0
    · have hrb : (r != 0) = false := by simp [h1]
      have HG3 : Hid (groupsOf fs p = (ownersM (rulesM fs) p, 0)) := by show _ = _; rw [HG2.out, if_pos h1]
      clear h1 HG2
      go_enter Tryz.func23, Tryz.ntmps23
      go_wp2_with (fail)
      refine HC.out.mono ?_
      rintro e w1 ⟨rfl, hb1⟩
      go_wp2_with (fail)
      refine (HC1.out _ _ (one_file _ _) HS1.out).mono ?_
      rintro e w2 ⟨rfl, hb2⟩
      have hb12 := qtrans hb1 (qtrans (qalloc w1 (.cells #[.string p, .string ⟨#[]⟩] 55)) hb2)
      go_wp2_with (fail)
      refine (rulesOf_anyX _ fs _ (HV.out.below hb12) HS.out).mono ?_
      rintro e w3 ⟨rfl, hm3, hb3⟩
      have HM3 := Lib.hid (hm3.fewer (Y := List.range w.heap.size) (fun k hk => by have := hb12.size; simp at hk ⊢; omega))
      clear hm3
      go_wp2_with (fail)
      refine (ownersOf_anyX _ p hp _ _ _ (rulesM_small HS.out) _ HM3.out).mono ?_
      rintro e w4 ⟨gv, rfl, hg4, hb4⟩
      have HG4 := Lib.hid hg4
      obtain ⟨ga, gc, rfl, -, -⟩ := groups_val hg4
      clear hg4
      go_wp2
      go_ret2
      rw [HG3.out]
      exact ⟨_, rfl, HG4.out, qtrans hb12 (qtrans hb3 hb4)⟩
    · have hrb : (r != 0) = true := by simp [h1]
      have HG3 : Hid (groupsOf fs p = ([], 6)) := by show _ = _; rw [HG2.out, if_neg h1]
      clear h1 HG2
      go_enter Tryz.func23, Tryz.ntmps23
      go_wp2_with (fail)
      refine HC.out.mono ?_
      rintro e w1 ⟨rfl, hb1⟩
      go_wp2_with (fail)
      refine (HC1.out _ _ (one_file _ _) HS1.out).mono ?_
      rintro e w2 ⟨rfl, hb2⟩
      have hb12 := qtrans hb1 (qtrans (qalloc w1 (.cells #[.string p, .string ⟨#[]⟩] 55)) hb2)
      go_wp2
      go_ret2
      rw [HG3.out]
      exact ⟨_, rfl, Reads.nilRow _ _ _ _, hb12⟩
  · have hqb : (q != 0) = true := by simp [h0]
    have HG2 : Hid (groupsOf fs p = ([], q)) := by show _ = _; rw [HG.out, if_neg h0]
    clear h0 HG
    go_enter Tryz.func23, Tryz.ntmps23
    go_wp2_with (fail)
    refine HC.out.mono ?_
    rintro e w1 ⟨rfl, hb1⟩
    go_wp2
    go_ret2
    rw [HG2.out]
    exact ⟨_, rfl, Reads.nilRow _ _ _ _, hb1⟩
theorem Groups_any (v : Value) (fs : List OFile) (p : ByteArray) (w : World) (hv : Reads w [] (filesT fs) v) (hs : SmallF fs) (hp : p.size ≤ 30000) :
    Calls Tryz.prog 23 #[v, .string p] w (GroupsPost (groupsOf fs p) w) :=
  (Groups_anyX v fs p w hv hs hp).mono fun _ _ ⟨gv, h1, h2, h3⟩ => ⟨gv, h1, h2.free, h3⟩
/-! The chapter's example. -/
def exFiles : List OFile := [⟨⟨#[79, 87, 78, 69, 82, 83]⟩, ⟨#[97, 108, 108, 32, 103, 114, 111, 117, 112, 32, 97, 110, 110, 32, 98, 111, 98, 32, 59, 32, 112, 114, 101, 102, 105, 120, 32, 100, 111, 99, 47, 32, 103, 114, 111, 117, 112, 32, 99, 105, 100, 32, 59]⟩⟩,
  ⟨⟨#[97, 47, 79, 87, 78, 69, 82, 83]⟩, ⟨#[112, 114, 101, 102, 105, 120, 32, 98, 32, 103, 114, 111, 117, 112, 32, 100, 97, 110, 32, 59]⟩⟩]
def exPath : Nat → ByteArray
  | 0 => ⟨#[100, 111, 99, 47, 120]⟩
  | 1 => ⟨#[120]⟩
  | 2 => ⟨#[97, 47, 98]⟩
  | _ => ⟨#[97, 47, 99]⟩
def exGroup : Nat → List ByteArray
  | 0 => [⟨#[99, 105, 100]⟩]
  | 1 => [⟨#[97, 110, 110]⟩, ⟨#[98, 111, 98]⟩]
  | 2 => [⟨#[100, 97, 110]⟩]
  | _ => [⟨#[97, 110, 110]⟩, ⟨#[98, 111, 98]⟩]
theorem ex_tree : treeErr exFiles = 0 := by kernel_rfl
theorem ex0 : groupsOf exFiles (exPath 0) = ([exGroup 0], 0) := by kernel_rfl
theorem ex1 : groupsOf exFiles (exPath 1) = ([exGroup 1], 0) := by kernel_rfl
theorem ex2 : groupsOf exFiles (exPath 2) = ([exGroup 2], 0) := by kernel_rfl
theorem ex3 : groupsOf exFiles (exPath 3) = ([exGroup 3], 0) := by kernel_rfl
end Go.Proofs.YtidkpnabdfiilaaGreatDoor

namespace Go.Proofs.YtidkpnabdfiilaaGreatDoor
open Go.RowKit

def exJoin : Nat → ByteArray
  | 0 => ⟨#[99, 105, 100]⟩
  | 1 => ⟨#[97, 110, 110, 32, 98, 111, 98]⟩
  | 2 => ⟨#[100, 97, 110]⟩
  | _ => ⟨#[97, 110, 110, 32, 98, 111, 98]⟩
def exPairs : Array Value := #[.string (exPath 0), .string (exJoin 0), .string (exPath 1), .string (exJoin 1), .string (exPath 2), .string (exJoin 2), .string (exPath 3), .string (exJoin 3)]
def exCells : Array Value := #[.string ⟨#[79, 87, 78, 69, 82, 83]⟩, .string ⟨#[97, 108, 108, 32, 103, 114, 111, 117, 112, 32, 97, 110, 110, 32, 98, 111, 98, 32, 59, 32, 112, 114, 101, 102, 105, 120, 32, 100, 111, 99, 47, 32, 103, 114, 111, 117, 112, 32, 99, 105, 100, 32, 59]⟩,
  .string ⟨#[97, 47, 79, 87, 78, 69, 82, 83]⟩, .string ⟨#[112, 114, 101, 102, 105, 120, 32, 98, 32, 103, 114, 111, 117, 112, 32, 100, 97, 110, 32, 59]⟩]
theorem ex_reads {w : World} {b : Nat} (hB : CBox w b 55 exCells) : Reads w [] (filesT exFiles) (.slice (some ⟨b, 0, none⟩) 2 2) := by
  refine Reads.ofRow (xs := exCells.toList) ⟨rfl, _, _, rfl, Nat.le_refl _, by unfold maxLen; omega, fun _ => ⟨b, 0, rfl, hB.lt, fun j u hj => ?_⟩⟩ (fun _ _ _ h => by cases h) ?_
  · match j, hj with
    | 0, hj => cases hj; exact hB.cell (i := 0) rfl
    | 1, hj => cases hj; exact hB.cell (i := 1) rfl
    | 2, hj => cases hj; exact hB.cell (i := 2) rfl
    | 3, hj => cases hj; exact hB.cell (i := 3) rfl
    | (j + 4), hj => cases hj
  · exact ReadsL.cons (Reads.leaf' _ _ _) (ReadsL.cons (Reads.leaf' _ _ _) (ReadsL.cons (Reads.leaf' _ _ _) (ReadsL.cons (Reads.leaf' _ _ _) (ReadsL.nil _ _))))
theorem ex_small : SmallF exFiles := ⟨by decide, fun f hf => by
  simp only [exFiles, List.mem_cons, List.not_mem_nil, or_false] at hf
  rcases hf with rfl | rfl <;> exact ⟨by decide, by decide⟩⟩
/-- A group's members, joined. -/
theorem join_any (v : Value) (g : List ByteArray) (j : ByteArray) (w : World) (hv : Strs w v g) (hg : 0 < g.length) (hj : bOf (Lib.join (g.map (·.data.toList)) [32]) = j) (hl : g.length ≤ 40000) (hz : j.size ≤ 1000000) :
    Calls Tryz.prog 46 #[v, .string ⟨#[32]⟩] w fun e w' => e = .returned (.string j) ∧ Below w.heap.size w w' := by
  obtain ⟨a, cap, rfl, h1, h2, h3⟩ := hv.shape
  obtain ⟨b, o, rfl, hb, hc⟩ := h3 0 hg
  have hlen : (Lib.join (g.map (·.data.toList)) (ByteArray.mk #[32]).data.toList).length ≤ 140737488355328 := by
    have : (Lib.join (g.map (·.data.toList)) [32]).length = j.size := by rw [← hj, ← sz, data_bOf]
    show (Lib.join (g.map (·.data.toList)) [32]).length ≤ _
    omega
  refine (Tryz.strings_Join b o cap g ⟨#[32]⟩ w (fun i x hx => ?_) hb (by omega) h1 hlen).mono ?_
  · have hi : i < g.length := (List.getElem?_eq_some_iff.1 hx).1
    have := hc i hi
    rwa [List.getD_eq_getElem?_getD, hx] at this
  · rintro e w' ⟨rfl, hb'⟩
    exact ⟨congrArg (fun x => Ending.returned (.string x)) hj, hb'⟩
set_option maxRecDepth 100000 in
set_option maxHeartbeats 2000000 in
theorem awake_any (w : World) : Calls Tryz.prog 15 #[] w fun e w' => e = .returned (.bool true) ∧ Below w.heap.size w w' := by
  go_enter Tryz.func15, Tryz.ntmps15
  go_wp2
  have hb1 : Hid (CBox ((w.alloc (.cells exCells 55)).alloc (.cells exPairs 77)) w.heap.size 55 exCells) := (CBox.new _ _ _).alloc _
  have hb2 : Hid (CBox ((w.alloc (.cells exCells 55)).alloc (.cells exPairs 77)) (w.heap.size + 1) 77 exPairs) := by
    have := CBox.new (w.alloc (.cells exCells 55)) 77 exPairs
    rwa [World.size_alloc] at this
  have hbl : Below w.heap.size w ((w.alloc (.cells exCells 55)).alloc (.cells exPairs 77)) := qtrans (qalloc _ _) (qalloc _ _)
  change Code.wp _ _ _ _ ((w.alloc (.cells exCells 55)).alloc (.cells exPairs 77))
  generalize (w.alloc (.cells exCells 55)).alloc (.cells exPairs 77) = W0 at *
  go_loopw [15] (fun i wr => ∃ k : Nat, k ≤ 4 ∧ i = .int .i64 k ∧ Below W0.heap.size W0 wr) (fun i _ => 4 - (intOf i).toNat)
  case atStart => exact ⟨0, by omega, rfl, qrefl _⟩
  case round =>
    obtain ⟨k, hk, rfl, hbr⟩ := hrel
    have HX1 := Lib.hid (hb1.out.below hbr)
    have HX2 := Lib.hid (hb2.out.below hbr)
    have hcases : k = 0 ∨ k = 1 ∨ k = 2 ∨ k = 3 ∨ k = 4 := by omega
    rcases hcases with rfl | rfl | rfl | rfl | rfl
    · have c0 : wr.cell? ⟨w.heap.size + 1, 0, none⟩ = some (.string (exPath 0)) := HX2.out.cell (i := 0) rfl
      have c1 : wr.cell? ⟨w.heap.size + 1, 1, none⟩ = some (.string (exJoin 0)) := HX2.out.cell (i := 1) rfl
      have l0 := HX2.out.lt
      have HG := Lib.hid (fun W h => Groups_any (.slice (some ⟨w.heap.size, 0, none⟩) 2 2) exFiles (exPath 0) W (ex_reads h) ex_small (by decide))
      rw [ex0] at HG
      have HJ : Hid (bOf (Lib.join ((exGroup 0).map (·.data.toList)) [32]) = exJoin 0) := by show _ = _; kernel_rfl
      have hgl : 0 < (exGroup 0).length := by decide
      have hgl2 : (exGroup 0).length ≤ 40000 := by decide
      have hjz : (exJoin 0).size ≤ 1000000 := by decide
      generalize exPath 0 = p at *
      generalize exJoin 0 = jn at *
      generalize exGroup 0 = g at *
      have hA := qalloc wr (.cells #[.string p, .string jn] 77)
      have HB3 := Lib.hid (CBox.new wr 77 #[.string p, .string jn])
      go_wp2_with (fail)
      refine (HG.out _ (HX1.out.below hA)).mono ?_
      rintro e w2 ⟨gv, rfl, hg2, hb2'⟩
      obtain ⟨ga, gc, rfl, -, -⟩ := groups_val hg2
      obtain ⟨b, o, ag, cg, rfl, hgb, hgc, -, -, HS⟩ := groups_elem (i := 0) hg2 rfl
      have d1 := (HB3.out.below hb2').cell (i := 1) rfl
      have dl := (HB3.out.below hb2').lt
      have hlen1 : (((1 : Nat) : Int) != 1) = false := by decide
      have hjj : (jn.toList == jn.toList) = true := by simp
      have hgc' : w2.cell? ⟨b, o, none⟩ = some (.slice ag g.length cg) := by simpa using hgc
      have hB2 : Below W0.heap.size W0 w2 := qtrans hbr (qtrans hA hb2')
      clear hg2 hgc
      go_wp2_with (fail)
      have HSD : Hid (Strs w2.drew (.slice ag g.length cg) g) := HS.out.below (qrefl w2).drew
      have hB2d : Below W0.heap.size W0 w2.drew := hB2.drew
      have dld : wr.heap.size < w2.drew.heap.size := dl
      have hgbd : b < w2.drew.heap.size := hgb
      refine wp_region_noPanic (region_ord (fun W => W.cell? ⟨b, o, none⟩ = some (.slice ag g.length cg) ∧ W.cell? ⟨wr.heap.size, 1, none⟩ = some (.string jn)) [(true, 0), (true, 1), (true, 2), (true, 3), (true, 4), (true, 5), (true, 6), (true, 7), (true, 8), (true, 9), (true, 10), (true, 12), (true, 13), (false, 11), (true, 14), (true, 15)] mixedK (by kernel_rfl) (fun _ _ _ _ _ h => h) ⟨hgc', d1⟩ (fun hHeld => ?_))
      clear hgc' d1 HS hB2 dl hgb
      generalize w2.drew = WD at *
      iterate 13 (first | (refine ord_skip rfl (by rfl) ?_; (try simp only [List.getElem_toArray, List.getElem_cons_succ, List.getElem_cons_zero, Act.put, List.setIfInBounds_toArray, List.set_cons_zero, List.set_cons_succ])) | (refine ord_take (v := ?_) rfl (by rfl) ?_ ?_; rotate_left; (focus (intro wq hSw; (try dsimp only at hSw); go_simp; (try rw [if_neg (by first | omega | (simp; omega))]); (try with_reducible rfl))); (try simp only [List.getElem_toArray, List.getElem_cons_succ, List.getElem_cons_zero, Act.put, List.setIfInBounds_toArray, List.set_cons_zero, List.set_cons_succ])))
      (refine ord_do rfl (by rfl) (fun K hK => ?_); go_simp)
      refine (join_any _ g jn _ HSD.out hgl HJ.out hgl2 hjz).mono ?_
      rintro e w3 ⟨rfl, hb3⟩
      refine hK.out _ _ ⟨(hb3.cell (p := ⟨b, o, none⟩) hgbd).trans hHeld.1, (hb3.cell (p := ⟨wr.heap.size, 1, none⟩) dld).trans hHeld.2⟩ (fun hHeld1 => ?_)
      clear hK K hHeld
      (try simp only [List.getElem_toArray, List.getElem_cons_succ, List.getElem_cons_zero, Act.put, List.setIfInBounds_toArray, List.set_cons_zero, List.set_cons_succ])
      iterate 2 (first | (refine ord_skip rfl (by rfl) ?_; (try simp only [List.getElem_toArray, List.getElem_cons_succ, List.getElem_cons_zero, Act.put, List.setIfInBounds_toArray, List.set_cons_zero, List.set_cons_succ])) | (refine ord_take (v := ?_) rfl (by rfl) ?_ ?_; rotate_left; (focus (intro wq hSw; (try dsimp only at hSw); go_simp; (try rw [if_neg (by first | omega | (simp; omega))]); (try with_reducible rfl))); (try simp only [List.getElem_toArray, List.getElem_cons_succ, List.getElem_cons_zero, Act.put, List.setIfInBounds_toArray, List.set_cons_zero, List.set_cons_succ])))
      refine ord_end (NoPanic.normal ?_)
      go_wp2
      go_roundw
      case rel => exact ⟨1, by omega, by go_num, qtrans hB2d hb3⟩
      case measure => simp [intOf]
    · have c0 : wr.cell? ⟨w.heap.size + 1, 2, none⟩ = some (.string (exPath 1)) := HX2.out.cell (i := 2) rfl
      have c1 : wr.cell? ⟨w.heap.size + 1, 3, none⟩ = some (.string (exJoin 1)) := HX2.out.cell (i := 3) rfl
      have l0 := HX2.out.lt
      have HG := Lib.hid (fun W h => Groups_any (.slice (some ⟨w.heap.size, 0, none⟩) 2 2) exFiles (exPath 1) W (ex_reads h) ex_small (by decide))
      rw [ex1] at HG
      have HJ : Hid (bOf (Lib.join ((exGroup 1).map (·.data.toList)) [32]) = exJoin 1) := by show _ = _; kernel_rfl
      have hgl : 0 < (exGroup 1).length := by decide
      have hgl2 : (exGroup 1).length ≤ 40000 := by decide
      have hjz : (exJoin 1).size ≤ 1000000 := by decide
      generalize exPath 1 = p at *
      generalize exJoin 1 = jn at *
      generalize exGroup 1 = g at *
      have hA := qalloc wr (.cells #[.string p, .string jn] 77)
      have HB3 := Lib.hid (CBox.new wr 77 #[.string p, .string jn])
      go_wp2_with (fail)
      refine (HG.out _ (HX1.out.below hA)).mono ?_
      rintro e w2 ⟨gv, rfl, hg2, hb2'⟩
      obtain ⟨ga, gc, rfl, -, -⟩ := groups_val hg2
      obtain ⟨b, o, ag, cg, rfl, hgb, hgc, -, -, HS⟩ := groups_elem (i := 0) hg2 rfl
      have d1 := (HB3.out.below hb2').cell (i := 1) rfl
      have dl := (HB3.out.below hb2').lt
      have hlen1 : (((1 : Nat) : Int) != 1) = false := by decide
      have hjj : (jn.toList == jn.toList) = true := by simp
      have hgc' : w2.cell? ⟨b, o, none⟩ = some (.slice ag g.length cg) := by simpa using hgc
      have hB2 : Below W0.heap.size W0 w2 := qtrans hbr (qtrans hA hb2')
      clear hg2 hgc
      go_wp2_with (fail)
      have HSD : Hid (Strs w2.drew (.slice ag g.length cg) g) := HS.out.below (qrefl w2).drew
      have hB2d : Below W0.heap.size W0 w2.drew := hB2.drew
      have dld : wr.heap.size < w2.drew.heap.size := dl
      have hgbd : b < w2.drew.heap.size := hgb
      refine wp_region_noPanic (region_ord (fun W => W.cell? ⟨b, o, none⟩ = some (.slice ag g.length cg) ∧ W.cell? ⟨wr.heap.size, 1, none⟩ = some (.string jn)) [(true, 0), (true, 1), (true, 2), (true, 3), (true, 4), (true, 5), (true, 6), (true, 7), (true, 8), (true, 9), (true, 10), (true, 12), (true, 13), (false, 11), (true, 14), (true, 15)] mixedK (by kernel_rfl) (fun _ _ _ _ _ h => h) ⟨hgc', d1⟩ (fun hHeld => ?_))
      clear hgc' d1 HS hB2 dl hgb
      generalize w2.drew = WD at *
      iterate 13 (first | (refine ord_skip rfl (by rfl) ?_; (try simp only [List.getElem_toArray, List.getElem_cons_succ, List.getElem_cons_zero, Act.put, List.setIfInBounds_toArray, List.set_cons_zero, List.set_cons_succ])) | (refine ord_take (v := ?_) rfl (by rfl) ?_ ?_; rotate_left; (focus (intro wq hSw; (try dsimp only at hSw); go_simp; (try rw [if_neg (by first | omega | (simp; omega))]); (try with_reducible rfl))); (try simp only [List.getElem_toArray, List.getElem_cons_succ, List.getElem_cons_zero, Act.put, List.setIfInBounds_toArray, List.set_cons_zero, List.set_cons_succ])))
      (refine ord_do rfl (by rfl) (fun K hK => ?_); go_simp)
      refine (join_any _ g jn _ HSD.out hgl HJ.out hgl2 hjz).mono ?_
      rintro e w3 ⟨rfl, hb3⟩
      refine hK.out _ _ ⟨(hb3.cell (p := ⟨b, o, none⟩) hgbd).trans hHeld.1, (hb3.cell (p := ⟨wr.heap.size, 1, none⟩) dld).trans hHeld.2⟩ (fun hHeld1 => ?_)
      clear hK K hHeld
      (try simp only [List.getElem_toArray, List.getElem_cons_succ, List.getElem_cons_zero, Act.put, List.setIfInBounds_toArray, List.set_cons_zero, List.set_cons_succ])
      iterate 2 (first | (refine ord_skip rfl (by rfl) ?_; (try simp only [List.getElem_toArray, List.getElem_cons_succ, List.getElem_cons_zero, Act.put, List.setIfInBounds_toArray, List.set_cons_zero, List.set_cons_succ])) | (refine ord_take (v := ?_) rfl (by rfl) ?_ ?_; rotate_left; (focus (intro wq hSw; (try dsimp only at hSw); go_simp; (try rw [if_neg (by first | omega | (simp; omega))]); (try with_reducible rfl))); (try simp only [List.getElem_toArray, List.getElem_cons_succ, List.getElem_cons_zero, Act.put, List.setIfInBounds_toArray, List.set_cons_zero, List.set_cons_succ])))
      refine ord_end (NoPanic.normal ?_)
      go_wp2
      go_roundw
      case rel => exact ⟨2, by omega, by go_num, qtrans hB2d hb3⟩
      case measure => simp [intOf]
    · have c0 : wr.cell? ⟨w.heap.size + 1, 4, none⟩ = some (.string (exPath 2)) := HX2.out.cell (i := 4) rfl
      have c1 : wr.cell? ⟨w.heap.size + 1, 5, none⟩ = some (.string (exJoin 2)) := HX2.out.cell (i := 5) rfl
      have l0 := HX2.out.lt
      have HG := Lib.hid (fun W h => Groups_any (.slice (some ⟨w.heap.size, 0, none⟩) 2 2) exFiles (exPath 2) W (ex_reads h) ex_small (by decide))
      rw [ex2] at HG
      have HJ : Hid (bOf (Lib.join ((exGroup 2).map (·.data.toList)) [32]) = exJoin 2) := by show _ = _; kernel_rfl
      have hgl : 0 < (exGroup 2).length := by decide
      have hgl2 : (exGroup 2).length ≤ 40000 := by decide
      have hjz : (exJoin 2).size ≤ 1000000 := by decide
      generalize exPath 2 = p at *
      generalize exJoin 2 = jn at *
      generalize exGroup 2 = g at *
      have hA := qalloc wr (.cells #[.string p, .string jn] 77)
      have HB3 := Lib.hid (CBox.new wr 77 #[.string p, .string jn])
      go_wp2_with (fail)
      refine (HG.out _ (HX1.out.below hA)).mono ?_
      rintro e w2 ⟨gv, rfl, hg2, hb2'⟩
      obtain ⟨ga, gc, rfl, -, -⟩ := groups_val hg2
      obtain ⟨b, o, ag, cg, rfl, hgb, hgc, -, -, HS⟩ := groups_elem (i := 0) hg2 rfl
      have d1 := (HB3.out.below hb2').cell (i := 1) rfl
      have dl := (HB3.out.below hb2').lt
      have hlen1 : (((1 : Nat) : Int) != 1) = false := by decide
      have hjj : (jn.toList == jn.toList) = true := by simp
      have hgc' : w2.cell? ⟨b, o, none⟩ = some (.slice ag g.length cg) := by simpa using hgc
      have hB2 : Below W0.heap.size W0 w2 := qtrans hbr (qtrans hA hb2')
      clear hg2 hgc
      go_wp2_with (fail)
      have HSD : Hid (Strs w2.drew (.slice ag g.length cg) g) := HS.out.below (qrefl w2).drew
      have hB2d : Below W0.heap.size W0 w2.drew := hB2.drew
      have dld : wr.heap.size < w2.drew.heap.size := dl
      have hgbd : b < w2.drew.heap.size := hgb
      refine wp_region_noPanic (region_ord (fun W => W.cell? ⟨b, o, none⟩ = some (.slice ag g.length cg) ∧ W.cell? ⟨wr.heap.size, 1, none⟩ = some (.string jn)) [(true, 0), (true, 1), (true, 2), (true, 3), (true, 4), (true, 5), (true, 6), (true, 7), (true, 8), (true, 9), (true, 10), (true, 12), (true, 13), (false, 11), (true, 14), (true, 15)] mixedK (by kernel_rfl) (fun _ _ _ _ _ h => h) ⟨hgc', d1⟩ (fun hHeld => ?_))
      clear hgc' d1 HS hB2 dl hgb
      generalize w2.drew = WD at *
      iterate 13 (first | (refine ord_skip rfl (by rfl) ?_; (try simp only [List.getElem_toArray, List.getElem_cons_succ, List.getElem_cons_zero, Act.put, List.setIfInBounds_toArray, List.set_cons_zero, List.set_cons_succ])) | (refine ord_take (v := ?_) rfl (by rfl) ?_ ?_; rotate_left; (focus (intro wq hSw; (try dsimp only at hSw); go_simp; (try rw [if_neg (by first | omega | (simp; omega))]); (try with_reducible rfl))); (try simp only [List.getElem_toArray, List.getElem_cons_succ, List.getElem_cons_zero, Act.put, List.setIfInBounds_toArray, List.set_cons_zero, List.set_cons_succ])))
      (refine ord_do rfl (by rfl) (fun K hK => ?_); go_simp)
      refine (join_any _ g jn _ HSD.out hgl HJ.out hgl2 hjz).mono ?_
      rintro e w3 ⟨rfl, hb3⟩
      refine hK.out _ _ ⟨(hb3.cell (p := ⟨b, o, none⟩) hgbd).trans hHeld.1, (hb3.cell (p := ⟨wr.heap.size, 1, none⟩) dld).trans hHeld.2⟩ (fun hHeld1 => ?_)
      clear hK K hHeld
      (try simp only [List.getElem_toArray, List.getElem_cons_succ, List.getElem_cons_zero, Act.put, List.setIfInBounds_toArray, List.set_cons_zero, List.set_cons_succ])
      iterate 2 (first | (refine ord_skip rfl (by rfl) ?_; (try simp only [List.getElem_toArray, List.getElem_cons_succ, List.getElem_cons_zero, Act.put, List.setIfInBounds_toArray, List.set_cons_zero, List.set_cons_succ])) | (refine ord_take (v := ?_) rfl (by rfl) ?_ ?_; rotate_left; (focus (intro wq hSw; (try dsimp only at hSw); go_simp; (try rw [if_neg (by first | omega | (simp; omega))]); (try with_reducible rfl))); (try simp only [List.getElem_toArray, List.getElem_cons_succ, List.getElem_cons_zero, Act.put, List.setIfInBounds_toArray, List.set_cons_zero, List.set_cons_succ])))
      refine ord_end (NoPanic.normal ?_)
      go_wp2
      go_roundw
      case rel => exact ⟨3, by omega, by go_num, qtrans hB2d hb3⟩
      case measure => simp [intOf]
    · have c0 : wr.cell? ⟨w.heap.size + 1, 6, none⟩ = some (.string (exPath 3)) := HX2.out.cell (i := 6) rfl
      have c1 : wr.cell? ⟨w.heap.size + 1, 7, none⟩ = some (.string (exJoin 3)) := HX2.out.cell (i := 7) rfl
      have l0 := HX2.out.lt
      have HG := Lib.hid (fun W h => Groups_any (.slice (some ⟨w.heap.size, 0, none⟩) 2 2) exFiles (exPath 3) W (ex_reads h) ex_small (by decide))
      rw [ex3] at HG
      have HJ : Hid (bOf (Lib.join ((exGroup 3).map (·.data.toList)) [32]) = exJoin 3) := by show _ = _; kernel_rfl
      have hgl : 0 < (exGroup 3).length := by decide
      have hgl2 : (exGroup 3).length ≤ 40000 := by decide
      have hjz : (exJoin 3).size ≤ 1000000 := by decide
      generalize exPath 3 = p at *
      generalize exJoin 3 = jn at *
      generalize exGroup 3 = g at *
      have hA := qalloc wr (.cells #[.string p, .string jn] 77)
      have HB3 := Lib.hid (CBox.new wr 77 #[.string p, .string jn])
      go_wp2_with (fail)
      refine (HG.out _ (HX1.out.below hA)).mono ?_
      rintro e w2 ⟨gv, rfl, hg2, hb2'⟩
      obtain ⟨ga, gc, rfl, -, -⟩ := groups_val hg2
      obtain ⟨b, o, ag, cg, rfl, hgb, hgc, -, -, HS⟩ := groups_elem (i := 0) hg2 rfl
      have d1 := (HB3.out.below hb2').cell (i := 1) rfl
      have dl := (HB3.out.below hb2').lt
      have hlen1 : (((1 : Nat) : Int) != 1) = false := by decide
      have hjj : (jn.toList == jn.toList) = true := by simp
      have hgc' : w2.cell? ⟨b, o, none⟩ = some (.slice ag g.length cg) := by simpa using hgc
      have hB2 : Below W0.heap.size W0 w2 := qtrans hbr (qtrans hA hb2')
      clear hg2 hgc
      go_wp2_with (fail)
      have HSD : Hid (Strs w2.drew (.slice ag g.length cg) g) := HS.out.below (qrefl w2).drew
      have hB2d : Below W0.heap.size W0 w2.drew := hB2.drew
      have dld : wr.heap.size < w2.drew.heap.size := dl
      have hgbd : b < w2.drew.heap.size := hgb
      refine wp_region_noPanic (region_ord (fun W => W.cell? ⟨b, o, none⟩ = some (.slice ag g.length cg) ∧ W.cell? ⟨wr.heap.size, 1, none⟩ = some (.string jn)) [(true, 0), (true, 1), (true, 2), (true, 3), (true, 4), (true, 5), (true, 6), (true, 7), (true, 8), (true, 9), (true, 10), (true, 12), (true, 13), (false, 11), (true, 14), (true, 15)] mixedK (by kernel_rfl) (fun _ _ _ _ _ h => h) ⟨hgc', d1⟩ (fun hHeld => ?_))
      clear hgc' d1 HS hB2 dl hgb
      generalize w2.drew = WD at *
      iterate 13 (first | (refine ord_skip rfl (by rfl) ?_; (try simp only [List.getElem_toArray, List.getElem_cons_succ, List.getElem_cons_zero, Act.put, List.setIfInBounds_toArray, List.set_cons_zero, List.set_cons_succ])) | (refine ord_take (v := ?_) rfl (by rfl) ?_ ?_; rotate_left; (focus (intro wq hSw; (try dsimp only at hSw); go_simp; (try rw [if_neg (by first | omega | (simp; omega))]); (try with_reducible rfl))); (try simp only [List.getElem_toArray, List.getElem_cons_succ, List.getElem_cons_zero, Act.put, List.setIfInBounds_toArray, List.set_cons_zero, List.set_cons_succ])))
      (refine ord_do rfl (by rfl) (fun K hK => ?_); go_simp)
      refine (join_any _ g jn _ HSD.out hgl HJ.out hgl2 hjz).mono ?_
      rintro e w3 ⟨rfl, hb3⟩
      refine hK.out _ _ ⟨(hb3.cell (p := ⟨b, o, none⟩) hgbd).trans hHeld.1, (hb3.cell (p := ⟨wr.heap.size, 1, none⟩) dld).trans hHeld.2⟩ (fun hHeld1 => ?_)
      clear hK K hHeld
      (try simp only [List.getElem_toArray, List.getElem_cons_succ, List.getElem_cons_zero, Act.put, List.setIfInBounds_toArray, List.set_cons_zero, List.set_cons_succ])
      iterate 2 (first | (refine ord_skip rfl (by rfl) ?_; (try simp only [List.getElem_toArray, List.getElem_cons_succ, List.getElem_cons_zero, Act.put, List.setIfInBounds_toArray, List.set_cons_zero, List.set_cons_succ])) | (refine ord_take (v := ?_) rfl (by rfl) ?_ ?_; rotate_left; (focus (intro wq hSw; (try dsimp only at hSw); go_simp; (try rw [if_neg (by first | omega | (simp; omega))]); (try with_reducible rfl))); (try simp only [List.getElem_toArray, List.getElem_cons_succ, List.getElem_cons_zero, Act.put, List.setIfInBounds_toArray, List.set_cons_zero, List.set_cons_succ])))
      refine ord_end (NoPanic.normal ?_)
      go_wp2
      go_roundw
      case rel => exact ⟨4, by omega, by go_num, qtrans hB2d hb3⟩
      case measure => simp [intOf]
    · go_wp2
      go_ret
      exact ⟨rfl, qtrans hbl hbr⟩
end Go.Proofs.YtidkpnabdfiilaaGreatDoor
