/- lexer.Label. -/
import Derived.Test.YtgcmekpfhagnbaaDoorLexD
namespace Go.Proofs.YtgcmekpfhagnbaaDoor
open Go.RowKit Go.Shelf
attribute [local go_sem] Oper.semAt_some

theorem SplitSeq_any (s : ByteArray) (w : World) :
    Calls Tryd.prog 65 #[.string s, .string ⟨#[47]⟩] w fun e w' =>
      e = .returned (.func (.func 94) #[] #[.pointer (some ⟨w.heap.size + 1, 0, none⟩), .pointer (some ⟨w.heap.size, 0, none⟩), .pointer (some ⟨w.heap.size + 2, 0, none⟩)]) ∧
      ((w.alloc (.cells #[.string s] 9)).alloc (.cells #[.string ⟨#[47]⟩] 9)).alloc (.cells #[.int .i64 0] 3) = w' := by
  go_enter Tryd.func65, Tryd.ntmps65
  go_wp2
  go_ret
  exact ⟨rfl, rfl⟩
theorem lt_of_cell {W : World} {b o : Nat} {v : Value} (h : W.cell? ⟨b, o, none⟩ = some v) : b < W.heap.size := by
  obtain ⟨o, ho, _⟩ := cells_of_cell h
  exact (Array.getElem?_eq_some_iff.1 ho).1
def partAt (s : ByteArray) (k : Nat) : ByteArray := bOf ((split s.data.toList).getD k [])
theorem partsOf_get {s : ByteArray} {k : Nat} (hk : k < (partsOf s).length) : (partsOf s)[k] = #[.string (partAt s k)] := by
  unfold partsOf partAt at *
  rw [List.length_map] at hk
  rw [List.getElem_map, List.getD_eq_getElem?_getD, List.getElem?_eq_getElem hk]; rfl
theorem partsOf_len (s : ByteArray) : (partsOf s).length = (split s.data.toList).length := by simp [partsOf]
theorem keeps_of_below {B : Nat} {W W' : World} (hb : Below W.heap.size W W') : KeepsFrom B W W' :=
  ⟨hb.size, fun k _ _ hk _ => (hb.block k (Array.getElem?_eq_some_iff.1 hk).1).trans hk⟩
theorem label_bad {s : ByteArray} {k : Nat} (hk : k < (partsOf s).length) (h : wordN 20 (partAt s k).data.toList = false) : labelS s = false := by
  rw [partsOf_len] at hk
  rw [labelS, labelB, Bool.and_eq_false_iff]
  right
  rw [List.all_eq_false]
  refine ⟨(split s.data.toList)[k], List.getElem_mem hk, ?_⟩
  unfold partAt at h
  rw [data_bOf, List.getD_eq_getElem?_getD, List.getElem?_eq_getElem hk] at h
  simpa using h
theorem label_good {s : ByteArray} (h90 : ¬ 90 < s.size) (h : ∀ k, k < (partsOf s).length → wordN 20 (partAt s k).data.toList = true) : labelS s = true := by
  rw [labelS, labelB, Bool.and_eq_true]
  refine ⟨by rw [sz]; simp; omega, ?_⟩
  rw [List.all_eq_true]
  intro l hl
  obtain ⟨k, hk, rfl⟩ := List.getElem_of_mem hl
  have := h k (by rw [partsOf_len]; exact hk)
  unfold partAt at this
  rw [data_bOf, List.getD_eq_getElem?_getD, List.getElem?_eq_getElem hk] at this
  simpa using this

set_option maxHeartbeats 1000000 in
theorem Label_any (s : ByteArray) (w : World) (hs : s.size ≤ 40000) :
    Calls Tryd.prog 35 #[.string s] w fun e w' => e = .returned (.bool (labelS s)) ∧ Below w.heap.size w w' := by
  by_cases h1 : 90 < s.size
  · have H : Hid (labelS s = false) := labelB_long (by rw [sz]; omega)
    go_enter Tryd.func35, Tryd.ntmps35
    go_wp2
    refine bodyPost_ret (v := .bool false) (by simp [results, Tryd.results35, go_sem]) rfl ⟨by rw [H.out], ?_⟩
    exact qalloc _ _
  · have hd90 : decide (90 < (s.size : Int)) = false := by simp; omega
    refine (callsIn_wide (n := 5)).1 ?_
    refine callsIn_of_wp_marks Tryd.func35 rfl trivial ?_ rfl
    simp only [Tryd.ntmps35, List.size_toArray, List.length_cons, List.length_nil, Nat.reduceAdd, Nat.reduceSub, Array.replicate_succ, Array.replicate_zero, List.push_toArray, List.append_toArray, List.nil_append, List.cons_append]
    gi_wp2_with (refine ⟨trivial, ?_⟩; gi_at_call 65; refine (callsIn_wide.2 (SplitSeq_any _ _)).mono ?_; rintro e w' ⟨rfl, rfl⟩)
    generalize hW : ((((w.alloc (Obj.cells #[Value.bool false] 4)).alloc (Obj.cells #[Value.string s] 9)).alloc (Obj.cells #[Value.string ⟨#[47]⟩] 9)).alloc (Obj.cells #[Value.int IntKind.i64 0] 3)) = W0
    have hsz : W0.heap.size = w.heap.size + 4 := by rw [← hW]; simp
    have k0 : W0.cell? ⟨w.heap.size, 0, none⟩ = some (.bool false) := by rw [← hW]; simp [go_sem]
    have k1 : W0.cell? ⟨w.heap.size + 1, 0, none⟩ = some (.string s) := by rw [← hW]; simp [go_sem]
    have k2 : W0.cell? ⟨w.heap.size + 1 + 1, 0, none⟩ = some (.string ⟨#[47]⟩) := by rw [← hW]; simp [go_sem]
    have k3 : W0.cell? ⟨w.heap.size + 1 + 2, 0, none⟩ = some (.int .i64 0) := by rw [← hW]; simp [go_sem]
    have f0 : W0.frozen? ⟨w.heap.size, 0, none⟩ = false := by rw [← hW]; simp [go_sem]
    have f1 : W0.frozen? ⟨w.heap.size + 1, 0, none⟩ = false := by rw [← hW]; simp [go_sem]
    have hbW : Below w.heap.size w W0 := by
      rw [← hW]; exact ((((Below.refl _ w).alloc (Nat.le_refl _) _).alloc (by simp) _).alloc (by simp; omega) _).alloc (by simp; omega) _
    clear hW
    have HSZ := Lib.hid hsz
    have hsz' : w.heap.size + 4 ≤ W0.heap.size := by omega
    clear hsz
    refine wp_iter rfl (by omega) (gf := 94) (lb := #[.pointer (some ⟨w.heap.size + 1 + 1, 0, none⟩), .pointer (some ⟨w.heap.size + 1, 0, none⟩), .pointer (some ⟨w.heap.size + 1 + 2, 0, none⟩)]) rfl trivial (enters_of Tryd.func94 (by kernel_rfl) rfl)
      (splitSeq1_iter s hs W0 (w.heap.size + 1) (w.heap.size + 1 + 1) (w.heap.size + 1 + 2) (w.heap.size + 4) hsz' (by omega) (by omega) (by omega) (by omega) (by omega) k1 f1 k2 k3) hsz' (qrefl _)
      (fun k hk => by rw [partsOf_get hk]; rfl)
      (fun k W => (W.cell? ⟨w.heap.size, 0, none⟩ = some (.bool false) ∧ W.frozen? ⟨w.heap.size, 0, none⟩ = false) ∧ Hid (∀ j, j < k → wordN 20 (partAt s j).data.toList = true) ∧ Below w.heap.size w W ∧ w.heap.size + 4 ≤ W.heap.size)
      (fun c _ W => (c = .ret ∧ Hid (labelS s = false)) ∧ W.cell? ⟨w.heap.size, 0, none⟩ = some (.bool false) ∧ Below w.heap.size w W)
      (OwnFrom.and (Own.from (fun s A B row hs hg hr => ⟨cell_kept hs.1 hg hr, (frozen_kept hs.1 hg hr).trans hs.2⟩) _) (OwnFrom.and (ownFrom_pure _ _) (OwnFrom.and (ownFrom_below (Nat.le_refl _) (by omega)) (fun _ _ _ _ hs hg _ => Nat.le_trans hs hg.size))))
      (fun c => OwnFrom.and (ownFrom_pure _ _) (OwnFrom.and (Own.from (fun s A B row hs hg hr => cell_kept hs hg hr) _) (ownFrom_below (Nat.le_refl _) (by omega))))
      ?ab ?ia ?ixa ⟨⟨k0, f0⟩, (fun j hj => by omega), hbW, hsz'⟩
      (fun k a' _ => a' = { tmps := #[.string s, undef, .pointer (some ⟨w.heap.size, 0, none⟩), .string (partAt s k), .string s, .int .i64 s.size, .bool false, .string s, .func (.func 94) #[] #[.pointer (some ⟨w.heap.size + 1 + 1, 0, none⟩), .pointer (some ⟨w.heap.size + 1, 0, none⟩), .pointer (some ⟨w.heap.size + 1 + 2, 0, none⟩)], .string (partAt s k), undef, undef, undef, undef, undef, undef, undef, undef], defers := [] })
      (fun _ _ _ _ _ _ hs _ _ => hs) ?assign ?body ?done ?stop
    case ab =>
      rintro A B ⟨v, rfl⟩ k o hk ho _
      rw [Below.heap_setCell _ _ _ _ (by show k ≠ w.heap.size + 1; omega)]; exact ho
    case ia =>
      rintro k A B ⟨⟨hc, hf⟩, hh, hb, hz⟩ ⟨v, rfl⟩
      exact ⟨⟨by rw [cell_far _ _ _ _ (by show w.heap.size ≠ w.heap.size + 1; omega)]; exact hc, by rw [frozen_far]; exact hf⟩, hh, hb.setCell (by show _ ≤ w.heap.size + 1; omega) _, by simpa [World.setCell] using hz⟩
    case ixa =>
      rintro c k A B ⟨hh, hc, hb⟩ ⟨v, rfl⟩
      exact ⟨hh, by rw [cell_far _ _ _ _ (by show w.heap.size ≠ w.heap.size + 1; omega)]; exact hc, hb.setCell (by show _ ≤ w.heap.size + 1; omega) _⟩
    case assign =>
      intro l k hk W K hi hK
      rw [partsOf_get hk]
      gi_wp2
      exact hK _ _ (KeepsFrom.refl _ _) (Below.refl _ _) hi rfl
    case body =>
      rintro l k hk a' W ⟨⟨hc, hf⟩, HH, hb, hbz⟩ rfl
      have hbad := @label_bad s k hk
      have HBAD := Lib.hid hbad
      clear hbad
      generalize hp : partAt s k = p at *
      have HP := Lib.hid hp
      clear hp
      have HW : Hid (wordN 20 p.data.toList = (decide (p.data.toList.length ≤ 20) && wordS 24 p)) := wordN_20_24 _
      by_cases h20 : 20 < p.size
      · have HL : Hid (labelS s = false) := HBAD.out (by rw [HW.out, sz]; simp; omega)
        gi_wp2
        refine ⟨trivial, ?_⟩
        gi_wp2
        exact ⟨(KeepsOthers.setCell _ _ _).from _, ⟨⟨rfl, HL⟩, World.cell?_setCell_same' _ _ _ (by rw [hc]; rfl), hb.setCell (Nat.le_refl _) _⟩⟩
      · have hd20 : decide (20 < (p.size : Int)) = false := by simp; omega
        cases hw : wordS 24 p with
        | false =>
          have HL : Hid (labelS s = false) := HBAD.out (by rw [HW.out, hw]; simp)
          gi_wp2_with (refine ⟨trivial, ?_⟩; gi_at_call 66; refine (CallsIn.inRound l (callsIn_wide.2 (Word_any _ _ (by omega)))).mono ?_; rintro e w' ⟨rfl, hb'⟩; have hc' := (hb'.cell (p := ⟨w.heap.size, 0, none⟩) (lt_of_cell hc)).trans hc; have hf' := (hb'.frozen (p := ⟨w.heap.size, 0, none⟩) (lt_of_cell hc)).trans hf)
          exact ⟨(keeps_of_below hb').trans ((KeepsOthers.setCell _ _ _).from _), ⟨⟨rfl, HL⟩, World.cell?_setCell_same' _ _ _ (by rw [hc']; rfl), (hb.trans (hb'.mono hb.size)).setCell (Nat.le_refl _) _⟩⟩
        | true =>
          have HN : Hid (∀ j, j < k + 1 → wordN 20 (partAt s j).data.toList = true) := fun j hj => by
            by_cases e : j = k
            · subst e; rw [HP.out, HW.out, hw, sz]; simp; omega
            · exact HH.out j (by omega)
          gi_wp2_with (refine ⟨trivial, ?_⟩; gi_at_call 66; refine (CallsIn.inRound l (callsIn_wide.2 (Word_any _ _ (by omega)))).mono ?_; rintro e w' ⟨rfl, hb'⟩; have hc' := (hb'.cell (p := ⟨w.heap.size, 0, none⟩) (lt_of_cell hc)).trans hc; have hf' := (hb'.frozen (p := ⟨w.heap.size, 0, none⟩) (lt_of_cell hc)).trans hf)
          exact ⟨keeps_of_below hb', hb'.mono hbz, ⟨hc', hf'⟩, HN, hb.trans (hb'.mono hb.size), Nat.le_trans hbz hb'.size⟩
    case done =>
      rintro D W hD ⟨⟨hc, hf⟩, HH, hb, _⟩ hK
      have HL : Hid (labelS s = true) := label_good h1 HH.out
      gi_wp2
      have hK2 := (KeepsOthers.setCell W ⟨w.heap.size, 0, none⟩ (.bool true)).same D _ hK rfl
      refine ⟨by simp, .inl ⟨_, _, rfl, run_takeDeferred hK2, ?_⟩⟩
      have hc2 : ((W.setCell ⟨w.heap.size, 0, none⟩ (.bool true)).putObj D (.deferred none)).cell? ⟨w.heap.size, 0, none⟩ = some (.bool true) :=
        cell_kept (World.cell?_setCell_same' _ _ _ (by rw [hc]; rfl)) (grownBy_putObj' _ D (.deferred none)) (fun r e => by cases e; exact ⟨_, hK2, rfl⟩)
      have hB2 : Below w.heap.size w ((W.setCell ⟨w.heap.size, 0, none⟩ (.bool true)).putObj D (.deferred none)) :=
        (hb.setCell (p := ⟨w.heap.size, 0, none⟩) (Nat.le_refl _) (.bool true)).trans (belowK_b (w := w) (Nat.le_refl _) _ D _ _ (by omega) hK2 rfl rfl)
      refine ⟨.bool true, by simp [results, Tryd.results35, go_sem, hc2], ?_⟩
      exact ⟨by rw [HL.out], hB2⟩
    case stop =>
      rintro D c k W hD hk ⟨⟨rfl, HL⟩, hc, hb⟩ hK
      gi_wp2
      refine ⟨by simp, .inl ⟨_, _, rfl, run_takeDeferred hK, ?_⟩⟩
      have hc2 : (W.putObj D (.deferred none)).cell? ⟨w.heap.size, 0, none⟩ = some (.bool false) :=
        cell_kept hc (grownBy_putObj' _ D (.deferred none)) (fun r e => by cases e; exact ⟨_, hK, rfl⟩)
      have hB2 : Below w.heap.size w (W.putObj D (.deferred none)) :=
        hb.trans (belowK_b (w := w) (Nat.le_refl _) _ D _ _ (by omega) hK rfl rfl)
      refine ⟨.bool false, by simp [results, Tryd.results35, go_sem, hc2], ?_⟩
      exact ⟨by rw [HL.out], hB2⟩
end Go.Proofs.YtgcmekpfhagnbaaDoor
