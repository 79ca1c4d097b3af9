/- owners.changed: the paths of the files that change. -/
import Derived.Test.YtidkpnabdfiilaaGreatDoorQ23
namespace Go.Proofs.YtidkpnabdfiilaaGreatDoor
open Go.RowKit

theorem drop_nil {α : Type} {l : List α} {k : Nat} (h : ¬ k < l.length) : l.drop k = [] := List.drop_eq_nil_of_le (by omega)
theorem paths_end {old fresh : List OFile} {i k : Nat} {f : OFile} (hi : old[i]? = some f) (hk : ¬ k < fresh.length) : pathsC (old.drop i) (fresh.drop k) = f.path :: pathsC (old.drop (i + 1)) (fresh.drop k) := by
  rw [drop_at hi, drop_nil hk]; rfl
theorem paths_fresh {old fresh : List OFile} {i k : Nat} {g : OFile} (hi : ¬ i < old.length) (hk : fresh[k]? = some g) : pathsC (old.drop i) (fresh.drop k) = g.path :: pathsC (old.drop i) (fresh.drop (k + 1)) := by
  rw [drop_at hk, drop_nil hi]; rfl
theorem paths_old {old fresh : List OFile} {i k : Nat} {f g : OFile} (hi : old[i]? = some f) (hk : fresh[k]? = some g) (h : lessB f g = true) : pathsC (old.drop i) (fresh.drop k) = f.path :: pathsC (old.drop (i + 1)) (fresh.drop k) := by
  rw [drop_at hi, drop_at hk]; unfold pathsC; rw [diff_old h]; rfl
theorem paths_new {old fresh : List OFile} {i k : Nat} {f g : OFile} (hi : old[i]? = some f) (hk : fresh[k]? = some g) (h : lessB f g = false) (h2 : lessB g f = true) : pathsC (old.drop i) (fresh.drop k) = g.path :: pathsC (old.drop i) (fresh.drop (k + 1)) := by
  rw [drop_at hi, drop_at hk]; unfold pathsC; rw [diff_new h h2]; rfl
theorem paths_both {old fresh : List OFile} {i k : Nat} {f g : OFile} (hi : old[i]? = some f) (hk : fresh[k]? = some g) (h : lessB f g = false) (h2 : lessB g f = false) : pathsC (old.drop i) (fresh.drop k) = (if sameDt f g then [] else [f.path]) ++ pathsC (old.drop (i + 1)) (fresh.drop (k + 1)) := by
  rw [drop_at hi, drop_at hk]; unfold pathsC; rw [diff_both h h2]
  cases sameDt f g <;> rfl
theorem paths_len (a b : List OFile) : (pathsC a b).length ≤ a.length + b.length := by
  unfold pathsC; rw [List.length_map]; exact diff_len _ a b (Nat.le_refl _)
/-- A slice of strings that the call owns. -/
def OwnS (w : World) (base : Nat) (v : Value) (ss : List ByteArray) : Prop := w.ownsRow base 9 1 v ss.length (ss.map .string)
theorem OwnS.strs {w : World} {base : Nat} {v : Value} {ss : List ByteArray} (h : OwnS w base v ss) : Strs w v ss := owns_row h
theorem OwnS.below {w w' : World} {base : Nat} {v : Value} {ss : List ByteArray} (h : OwnS w base v ss) (m : Below w.heap.size w w') : OwnS w' base v ss := owns_below h m
theorem OwnS.snoc {w w' : World} {base : Nat} {v v' : Value} {ss : List ByteArray} {s : ByteArray} (h : OwnS w base v ss) (hb : Below base w w') (ho : w'.ownsRow base 9 1 v' (ss.length + 1) (ss.map .string ++ [.string s])) : OwnS w' base v' (ss ++ [s]) := by
  have _ := h; have _ := hb
  unfold OwnS; rw [List.length_append, List.map_append]; exact ho
set_option maxRecDepth 100000 in
set_option maxHeartbeats 4000000 in
theorem changed_any (v1 v2 : Value) (old fresh : List OFile) (w : World) (h1 : Reads w [] (filesT old) v1) (h2 : Reads w [] (filesT fresh) v2) (hl : old.length + fresh.length ≤ 40000) :
    Calls Tryz.prog 49 #[v1, v2] w fun e w' => ∃ pv, e = .returned pv ∧ OwnS w' w.heap.size pv (pathsC old fresh) ∧ Below w.heap.size w w' := by
  obtain ⟨a1, cap1, rfl, hc1, hd1⟩ := files_val h1
  obtain ⟨a2, cap2, rfl, hc2, hd2⟩ := files_val h2
  obtain ⟨is0, his, hzs0, hzs1, hzs2⟩ := info_parts infoStr
  have H1 := Lib.hid h1
  have H2 := Lib.hid h2
  have HLEN := Lib.hid (paths_len old fresh)
  clear h1 h2
  go_enter Tryz.func49, Tryz.ntmps49
  go_wp2
  go_loopw [5, 6, 7] (fun pv iv kv wr => ∃ (pre : List ByteArray) (i k : Nat), i ≤ old.length ∧ k ≤ fresh.length ∧ iv = .int .i64 i ∧ kv = .int .i64 k ∧ OwnS wr w.heap.size pv pre ∧ Below w.heap.size w wr ∧ Hid (pathsC old fresh = pre ++ pathsC (old.drop i) (fresh.drop k)))
    (fun _ iv kv _ => old.length - (intOf iv).toNat + (fresh.length - (intOf kv).toNat))
  case atStart => exact ⟨[], 0, 0, Nat.zero_le _, Nat.zero_le _, rfl, rfl, World.ownsRow_nil _ _ _ _, qrefl _, rfl⟩
  case round =>
    obtain ⟨pre, i, k, hi, hk, rfl, rfl, hown, hbel, HD⟩ := hrel
    have hpl : pre.length ≤ 40000 := by
      have := congrArg List.length HD.out
      rw [List.length_append] at this
      have := HLEN.out
      omega
    have hbz := hbel.size
    have hi0 : (0 : Int) ≤ (i : Int) := by omega
    have hk0 : (0 : Int) ≤ (k : Int) := by omega
    by_cases hil : i < old.length
    · obtain ⟨f, hf⟩ : ∃ f, old[i]? = some f := ⟨_, List.getElem?_eq_getElem hil⟩
      obtain ⟨b1, o1, rfl, hb1, hp1, hq1⟩ := files_elem (H1.out.below hbel) hf
      have hi1 : (i : Int) < (old.length : Int) := by omega
      have hdi : decide ((i : Int) < (old.length : Int)) = true := decide_eq_true hi1
      have hei : ((i : Int) == (old.length : Int)) = false := by rw [beq_eq_false_iff_ne]; omega
      by_cases hkl : k < fresh.length
      · obtain ⟨g, hg⟩ : ∃ g, fresh[k]? = some g := ⟨_, List.getElem?_eq_getElem hkl⟩
        obtain ⟨b2, o2, rfl, hb2, hp2, hq2⟩ := files_elem (H2.out.below hbel) hg
        have hk1 : (k : Int) < (fresh.length : Int) := by omega
        have hdk : decide ((k : Int) < (fresh.length : Int)) = true := decide_eq_true hk1
        have hek : ((k : Int) == (fresh.length : Int)) = false := by rw [beq_eq_false_iff_ne]; omega
        have HL1 : Hid (lessB f g = Op.bytesLess f.path.toList g.path.toList) := by show _ = _; rw [lessB, tl, tl]
        have HL2 : Hid (lessB g f = Op.bytesLess g.path.toList f.path.toList) := by show _ = _; rw [lessB, tl, tl]
        have HSD : Hid (sameDt f g = (f.data.toList == g.data.toList)) := by show _ = _; rw [sameDt, tl, tl]
        cases hl1 : Op.bytesLess f.path.toList g.path.toList with
        | true =>
          have HN : Hid (pathsC old fresh = (pre ++ [f.path]) ++ pathsC (old.drop (i + 1)) (fresh.drop (k))) := by
            show _ = _; rw [HD.out, paths_old hf hg (by rw [HL1.out, hl1])]; simp
          clear HD
          go_wp2
          go_quiet (fail)
          have hownd := hown.below (below_drewN (qrefl wr) nq)
          have hbeld := below_drewN hbel nq
          go_wp2_with (at_builtin; refine wpList_append_own _ rfl _ _ 30 rfl w.heap.size 9 is0 _ 1 16 Tryz.underlying30 his hzs0 hzs1 hzs2 rfl (by decide) _ _ _ rfl (hownd.alloc _) _ 1 1 [.string f.path] rfl rfl (cell_one_new _ _ _) (by simp [Value.oneCell']) (by unfold maxLen; omega) (by omega) (by simp; omega) ?_)
          intro v' w3 hown3 hg3 _
          have hb3 : Below w.heap.size w w3 := (qtrans hbeld (qalloc _ _)).grown hg3 (by simp; omega) (fun k hk => owns_block hown hk)
          have hs3 : OwnS w3 w.heap.size v' (pre ++ [f.path]) := by unfold OwnS; rw [List.length_append, List.map_append]; exact hown3
          clear hg3 hown hown3 hownd
          go_wp2
          go_roundw
          case rel => exact ⟨(pre ++ [f.path]), i + 1, k, by omega, by omega, by go_num, by go_num, hs3, hb3, HN⟩
          case measure => simp [intOf]; omega
        | false =>
          cases hl2 : Op.bytesLess g.path.toList f.path.toList with
          | true =>
            have HN : Hid (pathsC old fresh = (pre ++ [g.path]) ++ pathsC (old.drop (i)) (fresh.drop (k + 1))) := by
              show _ = _; rw [HD.out, paths_new hf hg (by rw [HL1.out, hl1]) (by rw [HL2.out, hl2])]; simp
            clear HD
            go_wp2
            go_quiet (fail)
            generalize nq = nq0 at *
            go_wp2
            go_quiet (fail)
            have hownd := hown.below (below_drewN (qrefl wr) (nq0 + nq))
            have hbeld := below_drewN hbel (nq0 + nq)
            go_wp2_with (at_builtin; refine wpList_append_own _ rfl _ _ 30 rfl w.heap.size 9 is0 _ 1 16 Tryz.underlying30 his hzs0 hzs1 hzs2 rfl (by decide) _ _ _ rfl (hownd.alloc _) _ 1 1 [.string g.path] rfl rfl (cell_one_new _ _ _) (by simp [Value.oneCell']) (by unfold maxLen; omega) (by omega) (by simp; omega) ?_)
            intro v' w3 hown3 hg3 _
            have hb3 : Below w.heap.size w w3 := (qtrans hbeld (qalloc _ _)).grown hg3 (by simp; omega) (fun k hk => owns_block hown hk)
            have hs3 : OwnS w3 w.heap.size v' (pre ++ [g.path]) := by unfold OwnS; rw [List.length_append, List.map_append]; exact hown3
            clear hg3 hown hown3 hownd
            go_wp2
            go_roundw
            case rel => exact ⟨(pre ++ [g.path]), i, k + 1, by omega, by omega, by go_num, by go_num, hs3, hb3, HN⟩
            case measure => simp [intOf]; omega
          | false =>
            cases hsd : (f.data.toList == g.data.toList) with
            | true =>
              have HN : Hid (pathsC old fresh = pre ++ pathsC (old.drop (i + 1)) (fresh.drop (k + 1))) := by
                show _ = _; rw [HD.out, paths_both hf hg (by rw [HL1.out, hl1]) (by rw [HL2.out, hl2]), HSD.out, hsd, if_pos rfl]; simp
              clear HD
              go_wp2
              go_quiet (fail)
              generalize nq = nq0 at *
              go_wp2
              go_quiet (fail)
              generalize nq = nq1 at *
              go_wp2
              go_quiet (fail)
              have hownd := hown.below (below_drewN (qrefl wr) (nq0 + nq1 + nq))
              have hbeld := below_drewN hbel (nq0 + nq1 + nq)
              go_wp2
              go_roundw
              case rel => exact ⟨pre, i + 1, k + 1, by omega, by omega, by go_num, by go_num, hownd, hbeld, HN⟩
              case measure => simp [intOf]; omega
            | false =>
              have HN : Hid (pathsC old fresh = (pre ++ [f.path]) ++ pathsC (old.drop (i + 1)) (fresh.drop (k + 1))) := by
                show _ = _; rw [HD.out, paths_both hf hg (by rw [HL1.out, hl1]) (by rw [HL2.out, hl2]), HSD.out, hsd, if_neg (by simp)]; simp
              clear HD
              go_wp2
              go_quiet (fail)
              generalize nq = nq0 at *
              go_wp2
              go_quiet (fail)
              generalize nq = nq1 at *
              go_wp2
              go_quiet (fail)
              have hownd := hown.below (below_drewN (qrefl wr) (nq0 + nq1 + nq))
              have hbeld := below_drewN hbel (nq0 + nq1 + nq)
              go_wp2_with (at_builtin; refine wpList_append_own _ rfl _ _ 30 rfl w.heap.size 9 is0 _ 1 16 Tryz.underlying30 his hzs0 hzs1 hzs2 rfl (by decide) _ _ _ rfl (hownd.alloc _) _ 1 1 [.string f.path] rfl rfl (cell_one_new _ _ _) (by simp [Value.oneCell']) (by unfold maxLen; omega) (by omega) (by simp; omega) ?_)
              intro v' w3 hown3 hg3 _
              have hb3 : Below w.heap.size w w3 := (qtrans hbeld (qalloc _ _)).grown hg3 (by simp; omega) (fun k hk => owns_block hown hk)
              have hs3 : OwnS w3 w.heap.size v' (pre ++ [f.path]) := by unfold OwnS; rw [List.length_append, List.map_append]; exact hown3
              clear hg3 hown hown3 hownd
              go_wp2
              go_roundw
              case rel => exact ⟨(pre ++ [f.path]), i + 1, k + 1, by omega, by omega, by go_num, by go_num, hs3, hb3, HN⟩
              case measure => simp [intOf]; omega
      · have hdk : decide ((k : Int) < (fresh.length : Int)) = false := decide_eq_false (by omega)
        have hek : ((k : Int) == (fresh.length : Int)) = true := by rw [beq_iff_eq]; omega
        have HN : Hid (pathsC old fresh = (pre ++ [f.path]) ++ pathsC (old.drop (i + 1)) (fresh.drop (k))) := by
          show _ = _; rw [HD.out, paths_end hf hkl]; simp
        clear HD
        go_wp2
        go_quiet (fail)
        have hownd := hown.below (below_drewN (qrefl wr) nq)
        have hbeld := below_drewN hbel nq
        go_wp2_with (at_builtin; refine wpList_append_own _ rfl _ _ 30 rfl w.heap.size 9 is0 _ 1 16 Tryz.underlying30 his hzs0 hzs1 hzs2 rfl (by decide) _ _ _ rfl (hownd.alloc _) _ 1 1 [.string f.path] rfl rfl (cell_one_new _ _ _) (by simp [Value.oneCell']) (by unfold maxLen; omega) (by omega) (by simp; omega) ?_)
        intro v' w3 hown3 hg3 _
        have hb3 : Below w.heap.size w w3 := (qtrans hbeld (qalloc _ _)).grown hg3 (by simp; omega) (fun k hk => owns_block hown hk)
        have hs3 : OwnS w3 w.heap.size v' (pre ++ [f.path]) := by unfold OwnS; rw [List.length_append, List.map_append]; exact hown3
        clear hg3 hown hown3 hownd
        go_wp2
        go_roundw
        case rel => exact ⟨(pre ++ [f.path]), i + 1, k, by omega, by omega, by go_num, by go_num, hs3, hb3, HN⟩
        case measure => simp [intOf]; omega
    · have hdi : decide ((i : Int) < (old.length : Int)) = false := decide_eq_false (by omega)
      have hei : ((i : Int) == (old.length : Int)) = true := by rw [beq_iff_eq]; omega
      by_cases hkl : k < fresh.length
      · obtain ⟨g, hg⟩ : ∃ g, fresh[k]? = some g := ⟨_, List.getElem?_eq_getElem hkl⟩
        obtain ⟨b2, o2, rfl, hb2, hp2, hq2⟩ := files_elem (H2.out.below hbel) hg
        have hk1 : (k : Int) < (fresh.length : Int) := by omega
        have hdk : decide ((k : Int) < (fresh.length : Int)) = true := decide_eq_true hk1
        have hek : ((k : Int) == (fresh.length : Int)) = false := by rw [beq_eq_false_iff_ne]; omega
        have HN : Hid (pathsC old fresh = (pre ++ [g.path]) ++ pathsC (old.drop (i)) (fresh.drop (k + 1))) := by
          show _ = _; rw [HD.out, paths_fresh hil hg]; simp
        clear HD
        go_wp2
        go_quiet (fail)
        generalize nq = nq0 at *
        go_wp2
        go_quiet (fail)
        have hownd := hown.below (below_drewN (qrefl wr) (nq0 + nq))
        have hbeld := below_drewN hbel (nq0 + nq)
        go_wp2_with (at_builtin; refine wpList_append_own _ rfl _ _ 30 rfl w.heap.size 9 is0 _ 1 16 Tryz.underlying30 his hzs0 hzs1 hzs2 rfl (by decide) _ _ _ rfl (hownd.alloc _) _ 1 1 [.string g.path] rfl rfl (cell_one_new _ _ _) (by simp [Value.oneCell']) (by unfold maxLen; omega) (by omega) (by simp; omega) ?_)
        intro v' w3 hown3 hg3 _
        have hb3 : Below w.heap.size w w3 := (qtrans hbeld (qalloc _ _)).grown hg3 (by simp; omega) (fun k hk => owns_block hown hk)
        have hs3 : OwnS w3 w.heap.size v' (pre ++ [g.path]) := by unfold OwnS; rw [List.length_append, List.map_append]; exact hown3
        clear hg3 hown hown3 hownd
        go_wp2
        go_roundw
        case rel => exact ⟨(pre ++ [g.path]), i, k + 1, by omega, by omega, by go_num, by go_num, hs3, hb3, HN⟩
        case measure => simp [intOf]; omega
      · have hdk : decide ((k : Int) < (fresh.length : Int)) = false := decide_eq_false (by omega)
        have HN : Hid (pathsC old fresh = pre) := by
          show _ = _; rw [HD.out, drop_nil hil, drop_nil hkl]; simp [pathsC, diffC]
        go_wp2
        go_ret
        exact ⟨_, rfl, by rw [HN.out]; exact hown, hbel⟩
end Go.Proofs.YtidkpnabdfiilaaGreatDoor
