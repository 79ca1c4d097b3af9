/- The reference's SameStrings, SameGroups and Same on equal lists. Paths and files, plainly; tree.isPath. Files, plainly and in memory; tree.blob, tree.Check. -/
import Derived.Test.YtidkpnabdfiilaaGreatDoorQ05
import Derived.Test.YtidkpnabdfiilaaGreatDoorPaA
import Derived.IntWalk
namespace Go.Proofs.YtidkpnabdfiilaaGreatDoor
open Go.RowKit

theorem Strs.elem {w : World} {a : Option Addr} {cap : Nat} {ss : List ByteArray} (h : Strs w (.slice a ss.length cap) ss) {i : Nat} (hi : i < ss.length) :
    ∃ (b o : Nat), a = some ⟨b, o, none⟩ ∧ b < w.heap.size ∧ w.cell? ⟨b, o + i, none⟩ = some (.string (ss.getD i ByteArray.empty)) := by
  obtain ⟨a', cap', e, _, _, h3⟩ := h.shape
  cases e
  obtain ⟨b, o, rfl, hb, hc⟩ := h3 i hi
  exact ⟨b, o, rfl, hb, hc i hi⟩
theorem Strs.len {w : World} {v : Value} {ss : List ByteArray} (h : Strs w v ss) : ∃ (a : Option Addr) (cap : Nat), v = .slice a ss.length cap ∧ ss.length ≤ cap ∧ cap ≤ 9223372036854775807 := by
  obtain ⟨a, cap, e, h1, h2, _⟩ := h.shape; exact ⟨a, cap, e, h1, by unfold maxLen at h2; omega⟩
theorem rSameStrings_eq (v1 v2 : Value) (ss : List ByteArray) (w : World) (h1 : Strs w v1 ss) (h2 : Strs w v2 ss) :
    Calls Tryz.prog 52 #[v1, v2] w fun e w' => e = .returned (.bool true) ∧ ∃ n, w' = w.drewN n := by
  obtain ⟨a1, cap1, rfl, l1, m1⟩ := h1.len
  obtain ⟨a2, cap2, rfl, l2, m2⟩ := h2.len
  have H1 := Lib.hid h1
  have H2 := Lib.hid h2
  clear h1 h2
  go_enter Tryz.func52, Tryz.ntmps52
  go_wp2
  go_loopw [5] (fun i wr => ∃ k : Nat, k ≤ ss.length ∧ i = .int .i64 k ∧ Hid (∃ n, wr = w.drewN n)) (fun i _ => ss.length - (intOf i).toNat)
  case atStart => exact ⟨0, Nat.zero_le _, rfl, 0, rfl⟩
  case round =>
    obtain ⟨k, hk, rfl, HW⟩ := hrel
    by_cases hlt : k < ss.length
    · have hs1 : Strs wr (.slice a1 ss.length cap1) ss := by obtain ⟨n, rfl⟩ := HW.out; exact H1.out.drewN n
      have hs2 : Strs wr (.slice a2 ss.length cap2) ss := by obtain ⟨n, rfl⟩ := HW.out; exact H2.out.drewN n
      obtain ⟨b1, o1, rfl, hb1, c1⟩ := hs1.elem hlt
      obtain ⟨b2, o2, rfl, hb2, c2⟩ := hs2.elem hlt
      generalize ss.getD k ByteArray.empty = t at *
      have hne : (t.toList != t.toList) = false := by simp
      clear hs1 hs2
      go_wp2
      go_quiet (fail)
      go_wp2
      go_roundw
      case rel => exact ⟨k + 1, by omega, by go_num, by obtain ⟨n, rfl⟩ := HW.out; exact ⟨_, World.drewN_drewN _ _ _⟩⟩
      case measure => simp [intOf]; omega
    · go_wp2
      go_ret
      exact ⟨rfl, HW.out⟩
set_option maxHeartbeats 1000000 in
theorem rSameGroups_eq (v1 v2 : Value) (gs : List (List ByteArray)) (w : World) (h1 : Reads w [] (groupsT gs) v1) (h2 : Reads w [] (groupsT gs) v2) :
    Calls Tryz.prog 18 #[v1, v2] w fun e w' => e = .returned (.bool true) ∧ ∃ n, w' = w.drewN n := by
  obtain ⟨a1, cap1, rfl, l1, m1⟩ := groups_val h1
  obtain ⟨a2, cap2, rfl, l2, m2⟩ := groups_val h2
  have H1 := Lib.hid h1
  have H2 := Lib.hid h2
  clear h1 h2
  go_enter Tryz.func18, Tryz.ntmps18
  go_wp2
  go_loopw [5] (fun i wr => ∃ k : Nat, k ≤ gs.length ∧ i = .int .i64 k ∧ Hid (∃ n, wr = w.drewN n)) (fun i _ => gs.length - (intOf i).toNat)
  case atStart => exact ⟨0, Nat.zero_le _, rfl, 0, rfl⟩
  case round =>
    obtain ⟨k, hk, rfl, HW⟩ := hrel
    by_cases hlt : k < gs.length
    · obtain ⟨g, hg⟩ : ∃ g, gs[k]? = some g := ⟨_, List.getElem?_eq_getElem hlt⟩
      have hs1 : Reads wr [] (groupsT gs) (.slice a1 gs.length cap1) := by obtain ⟨n, rfl⟩ := HW.out; exact H1.out.drewN n
      have hs2 : Reads wr [] (groupsT gs) (.slice a2 gs.length cap2) := by obtain ⟨n, rfl⟩ := HW.out; exact H2.out.drewN n
      obtain ⟨b1, o1, ag1, cg1, rfl, hb1, c1, _, _, s1⟩ := groups_elem hs1 hg
      obtain ⟨b2, o2, ag2, cg2, rfl, hb2, c2, _, _, s2⟩ := groups_elem hs2 hg
      clear hs1 hs2 hg
      go_wp2
      go_quiet ((go_at_call 52; exact Calls.quiet_of ((rSameStrings_eq _ _ g _ (s1.out.drewN _) (s2.out.drewN _)))))
      go_wp2
      go_roundw
      case rel => exact ⟨k + 1, by omega, by go_num, by obtain ⟨n, rfl⟩ := HW.out; exact ⟨_, World.drewN_drewN _ _ _⟩⟩
      case measure => simp [intOf]; omega
    · go_wp2
      go_ret
      exact ⟨rfl, HW.out⟩
end Go.Proofs.YtidkpnabdfiilaaGreatDoor

namespace Go.Proofs.YtidkpnabdfiilaaGreatDoor
open Go.RowKit Go.Shelf
attribute [local go_sem] Oper.semAt_some

def pathB (l : List UInt8) : Bool := decide (l.length ≤ 100) && (split l).all nameB
def pathS (s : ByteArray) : Bool := pathB s.data.toList
theorem SplitSeq_any (s : ByteArray) (w : World) :
    Calls Tryz.prog 122 #[.string s, .string ⟨#[47]⟩] w fun e w' =>
      e = .returned (.func (.func 179) #[] #[.pointer (some ⟨w.heap.size + 1, 0, none⟩), .pointer (some ⟨w.heap.size, 0, none⟩), .pointer (some ⟨w.heap.size + 2, 0, none⟩)]) ∧
      ((w.alloc (.cells #[.string s] 9)).alloc (.cells #[.string ⟨#[47]⟩] 9)).alloc (.cells #[.int .i64 0] 3) = w' := by
  go_enter Tryz.func122, Tryz.ntmps122
  go_wp2
  go_ret
  exact ⟨rfl, rfl⟩
def partAt (s : ByteArray) (k : Nat) : ByteArray := bOf ((split s.data.toList).getD k [])
theorem partsOf_get {s : ByteArray} {k : Nat} (hk : k < (partsOf s).length) : (partsOf s)[k] = #[.string (partAt s k)] := by
  unfold partsOf partAt at *
  rw [List.length_map] at hk
  rw [List.getElem_map, List.getD_eq_getElem?_getD, List.getElem?_eq_getElem hk]; rfl
theorem partsOf_len (s : ByteArray) : (partsOf s).length = (split s.data.toList).length := by simp [partsOf]
theorem path_long {s : ByteArray} (h : 100 < s.size) : pathS s = false := by
  rw [pathS, pathB, Bool.and_eq_false_iff]; left; rw [sz]; simp; omega
theorem path_bad {s : ByteArray} {k : Nat} (hk : k < (partsOf s).length) (h : nameS (partAt s k) = false) : pathS s = false := by
  rw [partsOf_len] at hk
  rw [pathS, pathB, Bool.and_eq_false_iff]
  right
  rw [List.all_eq_false]
  refine ⟨(split s.data.toList)[k], List.getElem_mem hk, ?_⟩
  unfold partAt nameS at h
  rw [data_bOf, List.getD_eq_getElem?_getD, List.getElem?_eq_getElem hk] at h
  simpa using h
theorem path_good {s : ByteArray} (h90 : ¬ 100 < s.size) (h : ∀ k, k < (partsOf s).length → nameS (partAt s k) = true) : pathS s = true := by
  rw [pathS, pathB, Bool.and_eq_true]
  refine ⟨by rw [sz]; simp; omega, ?_⟩
  rw [List.all_eq_true]
  intro l hl
  obtain ⟨k, hk, rfl⟩ := List.getElem_of_mem hl
  have := h k (by rw [partsOf_len]; exact hk)
  unfold partAt nameS at this
  rw [data_bOf, List.getD_eq_getElem?_getD, List.getElem?_eq_getElem hk] at this
  simpa using this
/-- A part is not longer than the whole. -/
theorem split_len : ∀ (l : List UInt8) (x : List UInt8), x ∈ split l → x.length ≤ l.length := by
  intro l
  induction h : l.length using Nat.strongRecOn generalizing l with
  | _ n ih =>
    intro x hx
    by_cases hs : slashAt l < l.length
    · rw [split_some hs] at hx
      rcases List.mem_cons.1 hx with rfl | hx
      · rw [List.length_take]; omega
      · have := ih (l.drop (slashAt l + 1)).length (by rw [List.length_drop]; omega) _ rfl x hx
        rw [List.length_drop] at this; omega
    · rw [split_none (by have := slashAt_le l; omega)] at hx
      rw [List.mem_singleton.1 hx]; omega
theorem partAt_size (s : ByteArray) (k : Nat) : (partAt s k).size ≤ s.size := by
  rw [← sz, ← sz]
  unfold partAt
  rw [data_bOf, List.getD_eq_getElem?_getD]
  cases h : (split s.data.toList)[k]? with
  | none => exact Nat.zero_le _
  | some x => exact split_len _ _ (List.mem_of_getElem? h)
set_option maxHeartbeats 1000000 in
theorem isPath_any (s : ByteArray) (w : World) (hs : s.size ≤ 40000) :
    Calls Tryz.prog 79 #[.string s] w fun e w' => e = .returned (.bool (pathS s)) ∧ Below w.heap.size w w' := by
  by_cases h1 : 100 < s.size
  · have H := Lib.hid (path_long h1)
    go_enter Tryz.func79, Tryz.ntmps79
    go_wp2
    refine bodyPost_ret (v := .bool false) (by simp [results, Tryz.results79, go_sem]) rfl ⟨by rw [H.out], ?_⟩
    exact qalloc _ _
  · have hd90 : decide (100 < (s.size : Int)) = false := by simp; omega
    refine (callsIn_wide (n := 5)).1 ?_
    refine callsIn_of_wp_marks Tryz.func79 rfl trivial ?_ rfl
    simp only [Tryz.ntmps79, List.size_toArray, List.length_cons, List.length_nil, Nat.reduceAdd, Nat.reduceSub, Array.replicate_succ, Array.replicate_zero, List.push_toArray, List.append_toArray, List.nil_append, List.cons_append]
    gi_wp2_with (refine ⟨trivial, ?_⟩; gi_at_call 122; refine (callsIn_wide.2 (SplitSeq_any _ _)).mono ?_; rintro e w' ⟨rfl, rfl⟩)
    generalize hW : ((((w.alloc (Obj.cells #[Value.bool false] 4)).alloc (Obj.cells #[Value.string s] 9)).alloc (Obj.cells #[Value.string ⟨#[47]⟩] 9)).alloc (Obj.cells #[Value.int IntKind.i64 0] 3)) = W0
    have hsz : W0.heap.size = w.heap.size + 4 := by rw [← hW]; simp
    have k0 : W0.cell? ⟨w.heap.size, 0, none⟩ = some (.bool false) := by rw [← hW]; simp [go_sem]
    have k1 : W0.cell? ⟨w.heap.size + 1, 0, none⟩ = some (.string s) := by rw [← hW]; simp [go_sem]
    have k2 : W0.cell? ⟨w.heap.size + 1 + 1, 0, none⟩ = some (.string ⟨#[47]⟩) := by rw [← hW]; simp [go_sem]
    have k3 : W0.cell? ⟨w.heap.size + 1 + 2, 0, none⟩ = some (.int .i64 0) := by rw [← hW]; simp [go_sem]
    have f0 : W0.frozen? ⟨w.heap.size, 0, none⟩ = false := by rw [← hW]; simp [go_sem]
    have f1 : W0.frozen? ⟨w.heap.size + 1, 0, none⟩ = false := by rw [← hW]; simp [go_sem]
    have hbW : Below w.heap.size w W0 := by
      rw [← hW]; exact ((((Below.refl _ w).alloc (Nat.le_refl _) _).alloc (by simp) _).alloc (by simp; omega) _).alloc (by simp; omega) _
    clear hW
    have HSZ := Lib.hid hsz
    have hsz' : w.heap.size + 4 ≤ W0.heap.size := by omega
    clear hsz
    refine wp_iter rfl (by omega) (gf := 179) (lb := #[.pointer (some ⟨w.heap.size + 1 + 1, 0, none⟩), .pointer (some ⟨w.heap.size + 1, 0, none⟩), .pointer (some ⟨w.heap.size + 1 + 2, 0, none⟩)]) rfl trivial (enters_of Tryz.func179 (by kernel_rfl) rfl)
      (splitSeq1_iter s hs W0 (w.heap.size + 1) (w.heap.size + 1 + 1) (w.heap.size + 1 + 2) (w.heap.size + 4) hsz' (by omega) (by omega) (by omega) (by omega) (by omega) k1 f1 k2 k3) hsz' (qrefl _)
      (fun k hk => by rw [partsOf_get hk]; rfl)
      (fun k W => (W.cell? ⟨w.heap.size, 0, none⟩ = some (.bool false) ∧ W.frozen? ⟨w.heap.size, 0, none⟩ = false) ∧ Hid (∀ j, j < k → nameS (partAt s j) = true) ∧ Below w.heap.size w W ∧ w.heap.size + 4 ≤ W.heap.size)
      (fun c _ W => (c = .ret ∧ Hid (pathS s = false)) ∧ W.cell? ⟨w.heap.size, 0, none⟩ = some (.bool false) ∧ Below w.heap.size w W)
      (OwnFrom.and (Own.from (fun s A B row hs hg hr => ⟨cell_kept hs.1 hg hr, (frozen_kept hs.1 hg hr).trans hs.2⟩) _) (OwnFrom.and (ownFrom_pure _ _) (OwnFrom.and (ownFrom_below (Nat.le_refl _) (by omega)) (fun _ _ _ _ hs hg _ => Nat.le_trans hs hg.size))))
      (fun c => OwnFrom.and (ownFrom_pure _ _) (OwnFrom.and (Own.from (fun s A B row hs hg hr => cell_kept hs hg hr) _) (ownFrom_below (Nat.le_refl _) (by omega))))
      ?ab ?ia ?ixa ⟨⟨k0, f0⟩, (fun j hj => by omega), hbW, hsz'⟩
      (fun k a' _ => a' = { tmps := #[.string s, undef, .pointer (some ⟨w.heap.size, 0, none⟩), .string (partAt s k), .string s, .int .i64 s.size, .bool false, .string s, .func (.func 179) #[] #[.pointer (some ⟨w.heap.size + 1 + 1, 0, none⟩), .pointer (some ⟨w.heap.size + 1, 0, none⟩), .pointer (some ⟨w.heap.size + 1 + 2, 0, none⟩)], .string (partAt s k), undef, undef, undef], defers := [] })
      (fun _ _ _ _ _ _ hs _ _ => hs) ?assign ?body ?done ?stop
    case ab =>
      rintro A B ⟨v, rfl⟩ k o hk ho _
      rw [Below.heap_setCell _ _ _ _ (by show k ≠ w.heap.size + 1; omega)]; exact ho
    case ia =>
      rintro k A B ⟨⟨hc, hf⟩, hh, hb, hz⟩ ⟨v, rfl⟩
      exact ⟨⟨by rw [cell_far _ _ _ _ (by show w.heap.size ≠ w.heap.size + 1; omega)]; exact hc, by rw [frozen_far]; exact hf⟩, hh, hb.setCell (by show _ ≤ w.heap.size + 1; omega) _, by simpa [World.setCell] using hz⟩
    case ixa =>
      rintro c k A B ⟨hh, hc, hb⟩ ⟨v, rfl⟩
      exact ⟨hh, by rw [cell_far _ _ _ _ (by show w.heap.size ≠ w.heap.size + 1; omega)]; exact hc, hb.setCell (by show _ ≤ w.heap.size + 1; omega) _⟩
    case assign =>
      intro l k hk W K hi hK
      rw [partsOf_get hk]
      gi_wp2
      exact hK _ _ (KeepsFrom.refl _ _) (Below.refl _ _) hi rfl
    case body =>
      rintro l k hk a' W ⟨⟨hc, hf⟩, HH, hb, hbz⟩ rfl
      have HBAD := Lib.hid (@path_bad s k hk)
      have hps := partAt_size s k
      generalize hp : partAt s k = p at *
      have HP := Lib.hid hp
      clear hp
      cases hw : nameS p with
      | false =>
        have HL : Hid (pathS s = false) := HBAD.out hw
        gi_wp2_with (refine ⟨trivial, ?_⟩; gi_at_call 123; refine (CallsIn.inRound l (callsIn_wide.2 (Valid_any _ _ (by omega)))).mono ?_; rintro e w' ⟨rfl, rfl⟩; rw [hw])
        exact ⟨(KeepsOthers.setCell _ _ _).from _, ⟨⟨rfl, HL⟩, World.cell?_setCell_same' _ _ _ (by rw [hc]; rfl), hb.setCell (Nat.le_refl _) _⟩⟩
      | true =>
        have HN : Hid (∀ j, j < k + 1 → nameS (partAt s j) = true) := fun j hj => by
          by_cases e : j = k
          · subst e; rw [HP.out, hw]
          · exact HH.out j (by omega)
        gi_wp2_with (refine ⟨trivial, ?_⟩; gi_at_call 123; refine (CallsIn.inRound l (callsIn_wide.2 (Valid_any _ _ (by omega)))).mono ?_; rintro e w' ⟨rfl, rfl⟩; rw [hw])
        exact ⟨KeepsFrom.refl _ _, Below.refl _ _, ⟨hc, hf⟩, HN, hb, hbz⟩
    case done =>
      rintro D W hD ⟨⟨hc, hf⟩, HH, hb, _⟩ hK
      have HL : Hid (pathS s = true) := path_good h1 HH.out
      gi_wp2
      have hK2 := (KeepsOthers.setCell W ⟨w.heap.size, 0, none⟩ (.bool true)).same D _ hK rfl
      refine ⟨by simp, .inl ⟨_, _, rfl, run_takeDeferred hK2, ?_⟩⟩
      have hc2 : ((W.setCell ⟨w.heap.size, 0, none⟩ (.bool true)).putObj D (.deferred none)).cell? ⟨w.heap.size, 0, none⟩ = some (.bool true) :=
        cell_kept (World.cell?_setCell_same' _ _ _ (by rw [hc]; rfl)) (grownBy_putObj' _ D (.deferred none)) (fun r e => by cases e; exact ⟨_, hK2, rfl⟩)
      have hB2 : Below w.heap.size w ((W.setCell ⟨w.heap.size, 0, none⟩ (.bool true)).putObj D (.deferred none)) :=
        (hb.setCell (p := ⟨w.heap.size, 0, none⟩) (Nat.le_refl _) (.bool true)).trans (belowK_b (w := w) (Nat.le_refl _) _ D _ _ (by omega) hK2 rfl rfl)
      refine ⟨.bool true, by simp [results, Tryz.results79, go_sem, hc2], ?_⟩
      exact ⟨by rw [HL.out], hB2⟩
    case stop =>
      rintro D c k W hD hk ⟨⟨rfl, HL⟩, hc, hb⟩ hK
      gi_wp2
      refine ⟨by simp, .inl ⟨_, _, rfl, run_takeDeferred hK, ?_⟩⟩
      have hc2 : (W.putObj D (.deferred none)).cell? ⟨w.heap.size, 0, none⟩ = some (.bool false) :=
        cell_kept hc (grownBy_putObj' _ D (.deferred none)) (fun r e => by cases e; exact ⟨_, hK, rfl⟩)
      have hB2 : Below w.heap.size w (W.putObj D (.deferred none)) :=
        hb.trans (belowK_b (w := w) (Nat.le_refl _) _ D _ _ (by omega) hK rfl rfl)
      refine ⟨.bool false, by simp [results, Tryz.results79, go_sem, hc2], ?_⟩
      exact ⟨by rw [HL.out], hB2⟩
end Go.Proofs.YtidkpnabdfiilaaGreatDoor

namespace Go.Proofs.YtidkpnabdfiilaaGreatDoor
open Go.RowKit

/-! Plain. -/
def leB (a b : List UInt8) : Bool := Op.bytesLess a b || a == b
def orderBad (pre : List OFile) (f : OFile) : Bool := match pre.getLast? with | none => false | some g => leB f.path.data.toList g.path.data.toList
def treeFrom (pre : List OFile) : List OFile → Int
  | [] => 0
  | f :: r => if pathS f.path then (if orderBad pre f then 10 else treeFrom (pre ++ [f]) r) else 6
def inPaths (fs : List OFile) (x : List UInt8) : Bool := fs.any fun g => g.path.data.toList == x
def dirAt (fs : List OFile) (p : List UInt8) (i : Nat) : Bool := p.getD i 0 == 47 && inPaths fs (p.take i)
def dirIn (fs : List OFile) (p : List UInt8) : Bool := (List.range p.length).any (dirAt fs p)
def someDir (fs gs : List OFile) : Bool := gs.any fun f => dirIn fs f.path.data.toList
def treeErr (fs : List OFile) : Int := if 200 < fs.length then 4 else if treeFrom [] fs = 0 then (if someDir fs fs then 7 else 0) else treeFrom [] fs
theorem treeFrom_at {fs : List OFile} {k : Nat} {f : OFile} (hf : fs[k]? = some f) :
    treeFrom (fs.take k) (fs.drop k) = if pathS f.path then (if orderBad (fs.take k) f then 10 else treeFrom (fs.take (k + 1)) (fs.drop (k + 1))) else 6 := by
  obtain ⟨hk, e⟩ := List.getElem?_eq_some_iff.1 hf
  rw [List.drop_eq_getElem_cons hk, treeFrom, e, List.take_succ_eq_append_getElem hk, e]
theorem orderBad_zero (fs : List OFile) (f : OFile) : orderBad (fs.take 0) f = false := by simp [orderBad]
theorem orderBad_succ {fs : List OFile} {k : Nat} {g f : OFile} (hg : fs[k]? = some g) : orderBad (fs.take (k + 1)) f = leB f.path.data.toList g.path.data.toList := by
  unfold orderBad
  rw [take_at hg, List.getLast?_append]
  rfl
theorem dirIn_no {fs : List OFile} {p : List UInt8} (h : ∀ i, i < p.length → dirAt fs p i = false) : dirIn fs p = false := by
  unfold dirIn
  rw [List.any_eq_false]
  intro i hi
  rw [List.mem_range] at hi
  rw [h i hi]; simp
theorem dirIn_yes {fs : List OFile} {p : List UInt8} {i : Nat} (hi : i < p.length) (h : dirAt fs p i = true) : dirIn fs p = true := by
  unfold dirIn
  rw [List.any_eq_true]
  exact ⟨i, List.mem_range.2 hi, h⟩
theorem someDir_at {fs gs : List OFile} {k : Nat} {f : OFile} (hf : gs[k]? = some f) : someDir fs (gs.drop k) = (dirIn fs f.path.data.toList || someDir fs (gs.drop (k + 1))) := by
  obtain ⟨hk, e⟩ := List.getElem?_eq_some_iff.1 hf
  rw [List.drop_eq_getElem_cons hk, someDir, List.any_cons, e]; rfl
def pathF (fs : List OFile) (x : List UInt8) : Option Value := if inPaths fs x then some (.bool true) else none
theorem pathF_snoc (fs : List OFile) (f : OFile) : (fun x => if x = f.path.data.toList then some (Value.bool true) else pathF fs x) = pathF (fs ++ [f]) := by
  funext x
  unfold pathF inPaths
  rw [List.any_append]
  by_cases h : x = f.path.data.toList
  · subst h; simp
  · rw [if_neg h]
    have : (f.path.data.toList == x) = false := by rw [beq_eq_false_iff_ne]; exact fun e => h e.symm
    simp [this]
theorem pathF_get (fs : List OFile) (x : List UInt8) : (pathF fs x).getD (.bool false) = .bool (inPaths fs x) := by
  unfold pathF
  cases h : inPaths fs x <;> simp

/-! In memory. -/
def fileT (f : OFile) : List Tree := [strT f.path, strT f.data]
def filesT (fs : List OFile) : Tree := rowT 2 fileT fs
structure SmallF (fs : List OFile) : Prop where
  len : fs.length ≤ 40000
  each : ∀ f ∈ fs, f.path.size ≤ 40000 ∧ f.data.size ≤ 40000
theorem files_val {w : World} {X : List Nat} {fs : List OFile} {v : Value} (h : Reads w X (filesT fs) v) : ∃ (a : Option Addr) (cap : Nat), v = .slice a fs.length cap ∧ fs.length ≤ cap ∧ cap ≤ 9223372036854775807 := h.val
theorem files_elem {w : World} {X : List Nat} {fs : List OFile} {a : Option Addr} {cap : Nat} (h : Reads w X (filesT fs) (.slice a fs.length cap)) {i : Nat} {f : OFile} (hi : fs[i]? = some f) :
    ∃ b o : Nat, a = some ⟨b, o, none⟩ ∧ b < w.heap.size ∧ w.cell? ⟨b, o + i * 2, none⟩ = some (.string f.path) ∧ w.cell? ⟨b, o + i * 2 + 1, none⟩ = some (.string f.data) := by
  obtain ⟨b, o, rfl, hb, hc⟩ := Reads.elem (size := 2) (f := fileT) (fun _ => rfl) h hi
  obtain ⟨u, hu, hr⟩ := hc 0 _ rfl
  obtain ⟨u1, hu1, hr1⟩ := hc 1 _ rfl
  rw [Reads.leafv hr] at hu
  rw [Reads.leafv hr1] at hu1
  exact ⟨b, o, rfl, hb, by simpa using hu, hu1⟩
theorem blob_any (d : ByteArray) (w : World) : Calls Tryz.prog 81 #[.string d] w fun e w' => e = .returned (blobV d) ∧ Below w.heap.size w w' := by
  go_enter Tryz.func81, Tryz.ntmps81
  go_wp2
  exact bodyPost_ret (v := blobV d) (by simp [results, Tryz.results81, go_sem, blobV]) rfl ⟨rfl, qalloc _ _⟩
attribute [local go_sem] run_mkMap
set_option maxRecDepth 100000 in
set_option maxHeartbeats 2000000 in
theorem treeCheck_any (v : Value) (fs : List OFile) (w : World) (hv : Reads w [] (filesT fs) v) (hs : SmallF fs) :
    Calls Tryz.prog 47 #[v] w fun e w' => e = .returned (.int .i64 (treeErr fs)) ∧ Below w.heap.size w w' := by
  obtain ⟨a, cap, rfl, hc1, hc2⟩ := files_val hv
  have HV := Lib.hid hv
  have HS := Lib.hid hs
  have hlen := hs.len
  clear hv hs
  by_cases h0 : 200 < fs.length
  · have H : Hid (treeErr fs = 4) := by show _ = _; unfold treeErr; rw [if_pos h0]
    go_enter Tryz.func47, Tryz.ntmps47
    go_wp2
    go_ret
    exact ⟨ret_int (by rw [H.out]), qrefl _⟩
  have H : Hid (treeErr fs = if treeFrom [] fs = 0 then (if someDir fs fs then 7 else 0) else treeFrom [] fs) := by show _ = _; unfold treeErr; rw [if_neg h0]
  go_enter Tryz.func47, Tryz.ntmps47
  go_wp2
  go_loopw [15, 5] (fun i _ wr => ∃ k : Nat, k ≤ fs.length ∧ i = .int .i64 k ∧ Below w.heap.size w wr ∧ Hid (IsMapS Tryz.prog 9 wr w.heap.size k (pathF (fs.take k))) ∧ Hid (treeFrom [] fs = treeFrom (fs.take k) (fs.drop k))) (fun i _ _ => fs.length - (intOf i).toNat)
  case atStart => exact ⟨0, Nat.zero_le _, rfl, qalloc _ _, IsMapS.made _ _ _, rfl⟩
  case round =>
    obtain ⟨k, hk, rfl, hb, HM, HE⟩ := hrel
    by_cases hlt : k < fs.length
    · obtain ⟨f, hf⟩ : ∃ f, fs[k]? = some f := ⟨_, List.getElem?_eq_getElem hlt⟩
      have HE2 := Lib.hid (HE.out.trans (treeFrom_at hf))
      have hsf := HS.out.each f (List.mem_of_getElem? hf)
      obtain ⟨b, o, rfl, hbb, hcp, hcd⟩ := files_elem (HV.out.below hb) hf
      have HTK := Lib.hid (take_at hf)
      have hA := qalloc wr (.cells #[.string f.path, .string f.data] 55)
      have HCB := Lib.hid (CBox.new wr 55 #[.string f.path, .string f.data])
      have HO : Hid (orderBad (fs.take k) f = false ∧ k = 0 ∨ ∃ j g, k = j + 1 ∧ fs[j]? = some g ∧ orderBad (fs.take k) f = leB f.path.data.toList g.path.data.toList) := by
        cases k with
        | zero => exact .inl ⟨orderBad_zero _ _, rfl⟩
        | succ j =>
          obtain ⟨g, hg⟩ : ∃ g, fs[j]? = some g := ⟨_, List.getElem?_eq_getElem (by omega)⟩
          exact .inr ⟨j, g, rfl, hg, orderBad_succ hg⟩
      clear HE hf
      cases hp : pathS f.path with
      | false =>
        have HF : Hid (treeFrom [] fs = 6) := by show _ = _; rw [HE2.out, hp]; rfl
        go_wp2_with (go_at_call 79; refine (isPath_any _ _ hsf.1).mono ?_; rintro e w2 ⟨rfl, hb2⟩; rw [hp])
        go_ret
        exact ⟨ret_int (by rw [H.out, HF.out]; rfl), qtrans hb (qtrans hA hb2)⟩
      | true =>
        go_wp2_with (fail)
        refine (isPath_any _ _ hsf.1).mono ?_
        rintro e w2 ⟨rfl, hb2⟩
        rw [hp]
        have hcb := (HCB.out.below hb2).cell (i := 1) rfl
        have hcl := (HCB.out.below hb2).lt
        go_wp2_with (fail)
        refine (blob_any _ _).mono ?_
        rintro e w3 ⟨rfl, hb3⟩
        go_wp2_with (fail)
        refine (oCheck_blob _ hsf.2 _).mono ?_
        rintro e w4 ⟨rfl, hb4⟩
        have hb24 := qtrans hb2 (qtrans hb3 hb4)
        have hd0 := (HCB.out.below hb24).cell (i := 0) rfl
        have hdl := (HCB.out.below hb24).lt
        have hbw : Below w.heap.size w w4 := qtrans hb (qtrans hA hb24)
        have HM2 := Lib.hid ((HM.out.below hA).below hb24)
        clear hcb hcl hb2 hb3 hb4
        go_wp2_with (fail)
        rcases HO.out with ⟨ho, hk0⟩ | ⟨j, g, rfl, hg, ho⟩
        · have HF : Hid (treeFrom [] fs = treeFrom (fs.take (k + 1)) (fs.drop (k + 1))) := by show _ = _; rw [HE2.out, hp, ho]; rfl
          have hkd : decide (0 < (k : Int)) = false := by simp [hk0]
          have hkn : ¬ 0 < k := by omega
          clear ho hk0 HO
          go_quiet (fail)
          obtain ⟨w5, hput, hm5, hg5⟩ := (HM2.out.below (below_drewN (qrefl w4) nq)).put strKeyed Tryz.underlying82 (by unfold maxLen; omega) (key_str f.path hsf.1) (.bool true)
          rw [pathF_snoc, ← HTK.out] at hm5
          have HM5 := Lib.hid hm5
          have hb5 : Below w.heap.size w w5 := (below_drewN hbw nq).grown hg5 (below_drewN hbw nq).size (fun k e => by cases e; exact Nat.le_refl _)
          clear hm5 hg5
          go_wp2
          go_roundw
          case rel => exact ⟨_, by omega, by go_num, hb5, HM5, HF⟩
          case measure => simp [intOf]; omega
        · obtain ⟨b', o', e', hbb', hgp, -⟩ := files_elem (HV.out.below hbw) hg
          cases e'
          have hkd : decide (0 < ((j : Int) + 1)) = true := decide_eq_true (by omega)
          have hj0 : (0 : Int) ≤ (j : Int) := by omega
          have hj1 : (j : Int) < (fs.length : Int) := by omega
          have hw1 : IntKind.i64.wrap ((j : Int) + 1 - 1) = (j : Int) := by rw [Int.add_sub_cancel]; exact IntWalk.i64_in _ (by omega)
          have HLE : Hid (orderBad (fs.take (j + 1)) f = (Op.bytesLess f.path.toList g.path.toList || f.path.toList == g.path.toList)) := by show _ = _; rw [ho, leB, tl, tl]
          clear ho HO hg
          cases hle : (Op.bytesLess f.path.toList g.path.toList || f.path.toList == g.path.toList) with
          | true =>
            have HF : Hid (treeFrom [] fs = 10) := by show _ = _; rw [HE2.out, hp, HLE.out, hle]; rfl
            go_quiet (fail)
            go_wp2
            go_ret
            exact ⟨ret_int (by rw [H.out, HF.out]; rfl), below_drewN hbw _⟩
          | false =>
            have HF : Hid (treeFrom [] fs = treeFrom (fs.take (j + 1 + 1)) (fs.drop (j + 1 + 1))) := by show _ = _; rw [HE2.out, hp, HLE.out, hle]; rfl
            go_quiet (fail)
            obtain ⟨w5, hput, hm5, hg5⟩ := (HM2.out.below (below_drewN (qrefl w4) nq)).put strKeyed Tryz.underlying82 (by unfold maxLen; omega) (key_str f.path hsf.1) (.bool true)
            rw [pathF_snoc, ← HTK.out] at hm5
            have HM5 := Lib.hid hm5
            have hb5 : Below w.heap.size w w5 := (below_drewN hbw nq).grown hg5 (below_drewN hbw nq).size (fun k e => by cases e; exact Nat.le_refl _)
            clear hm5 hg5
            go_wp2
            go_roundw
            case rel => exact ⟨_, by omega, by go_num, hb5, HM5, HF⟩
            case measure => simp [intOf]; omega
    · have HF : Hid (treeFrom [] fs = 0) := by
        show _ = _
        rw [HE.out, List.drop_eq_nil_of_le (by omega)]; rfl
      have hkl : k = fs.length := by omega
      rw [hkl, List.take_length] at HM
      have H2 : Hid (treeErr fs = if someDir fs fs then 7 else 0) := by show _ = _; rw [H.out, HF.out, if_pos rfl]
      clear HE hkl
      generalize wr = wo at *
      go_wp2
      go_loopw [51] (fun i wr => ∃ k : Nat, k ≤ fs.length ∧ i = .int .i64 k ∧ Below wo.heap.size wo wr ∧ Hid (someDir fs fs = someDir fs (fs.drop k))) (fun i _ => fs.length - (intOf i).toNat)
      case atStart => exact ⟨0, Nat.zero_le _, rfl, qrefl _, rfl⟩
      case round =>
        obtain ⟨q, hq, rfl, hbq, HE⟩ := hrel
        by_cases hql : q < fs.length
        · obtain ⟨f, hf⟩ : ∃ f, fs[q]? = some f := ⟨_, List.getElem?_eq_getElem hql⟩
          have HE2 := Lib.hid (HE.out.trans (someDir_at hf))
          have hsf := HS.out.each f (List.mem_of_getElem? hf)
          obtain ⟨b, o, rfl, hbb, hcp, hcd⟩ := files_elem (HV.out.below (qtrans hb hbq)) hf
          have hA := qalloc wr (.cells #[.string f.path, .string f.data] 55)
          clear HE hf
          go_wp2
          have hCB := CBox.new wr 55 #[.string f.path, .string f.data]
          have HMA := Lib.hid ((HM.out.below hbq).below hA)
          have hd0 := hCB.cell (i := 0) rfl
          have hdl := hCB.lt
          have HWA : Hid (Below wo.heap.size wo (wr.alloc (.cells #[.string f.path, .string f.data] 55))) := qtrans hbq hA
          clear hCB hA
          generalize wr.alloc (.cells #[.string f.path, .string f.data] 55) = wi at *
          go_loop [58] (fun i => ∃ m : Nat, m ≤ f.path.size ∧ i = .int .i64 m ∧ Hid (∀ j, j < m → dirAt fs f.path.data.toList j = false)) (fun i => f.path.size - (intOf i).toNat)
          case atStart => exact ⟨0, Nat.zero_le _, rfl, fun j hj => by omega⟩
          case round =>
            obtain ⟨m, hm, rfl, HN⟩ := hrel
            by_cases hml : m < f.path.size
            · have hi0 : (0 : Int) ≤ (m : Int) := by omega
              have HD : Hid (dirAt fs f.path.data.toList m = (((f.path[m].toNat : Int) == 47) && inPaths fs (f.path.extract 0 m).data.toList)) := by
                show _ = _
                rw [dirAt, getD_at _ _ hml, show ((f.path[m].toNat : Int) == 47) = (f.path[m] == 47) from byteN _ 47, ex_take]
              cases h47 : ((f.path[m].toNat : Int) == 47) with
              | false =>
                have HN2 : Hid (∀ j, j < m + 1 → dirAt fs f.path.data.toList j = false) := fun j hj => by
                  by_cases e : j = m
                  · rw [e, HD.out, h47]; rfl
                  · exact HN.out j (by omega)
                go_wp2
                go_round
                case rel => exact ⟨m + 1, by omega, by go_num, HN2⟩
                case measure => simp [intOf]; omega
              | true =>
                have hlook := HMA.out.look strKeyed Tryz.underlying82 (Tryz.zeroValue4 wi) (key_str (f.path.extract 0 m) (by rw [ByteArray.size_extract]; omega))
                rw [pathF_get] at hlook
                cases hin : inPaths fs (f.path.extract 0 m).data.toList with
                | false =>
                  rw [hin] at hlook
                  have HN2 : Hid (∀ j, j < m + 1 → dirAt fs f.path.data.toList j = false) := fun j hj => by
                    by_cases e : j = m
                    · rw [e, HD.out, hin, Bool.and_false]
                    · exact HN.out j (by omega)
                  clear hin
                  go_wp2
                  go_round
                  case rel => exact ⟨m + 1, by omega, by go_num, HN2⟩
                  case measure => simp [intOf]; omega
                | true =>
                  rw [hin] at hlook
                  have HY : Hid (someDir fs fs = true) := by
                    show _ = _
                    rw [HE2.out, dirIn_yes (i := m) (by rw [sz]; exact hml) (by rw [HD.out, h47, hin]; rfl), Bool.true_or]
                  clear hin
                  go_wp2
                  go_ret
                  exact ⟨ret_int (by rw [H2.out, HY.out]; rfl), qtrans hb HWA.out⟩
            · have HY : Hid (someDir fs fs = someDir fs (fs.drop (q + 1))) := by
                show _ = _
                rw [HE2.out, dirIn_no (fun j hj => HN.out j (by rw [sz] at hj; omega)), Bool.false_or]
              go_wp2
              go_roundw
              case rel => exact ⟨q + 1, by omega, by go_num, HWA.out, HY⟩
              case measure => simp [intOf]; omega
        · have HY : Hid (someDir fs fs = false) := by
            show _ = _
            rw [HE.out, List.drop_eq_nil_of_le (by omega)]; rfl
          go_wp2
          go_ret
          exact ⟨ret_int (by rw [H2.out, HY.out]; rfl), qtrans hb hbq⟩
end Go.Proofs.YtidkpnabdfiilaaGreatDoor
