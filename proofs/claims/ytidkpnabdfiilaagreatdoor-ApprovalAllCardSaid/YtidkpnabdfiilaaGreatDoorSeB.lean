/- slices.AppendSeq and slices.Collect over what a person sees; approval.seen, approval.Seen. -/
import Derived.Test.YtidkpnabdfiilaaGreatDoorSeA
import Derived.Test.YtidkpnabdfiilaaGreatDoorAvQ
import Derived.Maps.AppendAt
namespace Go.Proofs.YtidkpnabdfiilaaGreatDoor
open Go.RowKit Go.Shelf
attribute [local go_sem] Oper.semAt_some

theorem seen_any (a : Option Addr) (n c : Nat) (who : ByteArray) (w : World) :
    Calls Tryz.prog 62 #[.slice a n c, .string who] w fun e w' => e = .returned (.func (.func 97) #[] #[.pointer (some ⟨w.heap.size, 0, none⟩), .pointer (some ⟨w.heap.size + 1, 0, none⟩)]) ∧ (w.alloc (.cells #[.slice a n c] 102)).alloc (.cells #[.string who] 9) = w' := by
  go_enter Tryz.func62, Tryz.ntmps62
  go_wp2
  go_ret
  exact ⟨rfl, rfl⟩
theorem seenArgs_len (who : ByteArray) (l : List OwnedC) : (seenArgs who l).length = (seenFrom who l).length := by simp [seenArgs]
theorem seenArgs_get {who : ByteArray} {l : List OwnedC} {k : Nat} (hk : k < (seenArgs who l).length) : ∃ x, (seenFrom who l)[k]? = some x ∧ (seenArgs who l)[k] = chgArg x := by
  have hk' : k < (seenFrom who l).length := by rw [← seenArgs_len]; exact hk
  have h : (seenArgs who l)[k]? = some (chgArg (seenFrom who l)[k]) := by unfold seenArgs; rw [List.getElem?_map, List.getElem?_eq_getElem hk']; rfl
  exact ⟨(seenFrom who l)[k], List.getElem?_eq_getElem hk', (List.getElem?_eq_some_iff.1 h).2⟩
theorem seenFrom_len (who : ByteArray) (l : List OwnedC) : (seenFrom who l).length ≤ l.length := by
  unfold seenFrom; rw [List.length_map]; exact List.length_filter_le _ _
set_option maxRecDepth 100000 in
set_option maxHeartbeats 2000000 in
theorem AppendSeq_seen (l : List OwnedC) (lv : Value) (who : ByteArray) (w : World) (Bl Bw : Nat) (c1 : w.cell? ⟨Bl, 0, none⟩ = some lv) (c2 : w.cell? ⟨Bw, 0, none⟩ = some (.string who)) (hr : Reads w [] (ownedsT l) lv) (hlen : l.length ≤ 40000) (hsm : ∀ x ∈ l, ∀ g ∈ x.2, g.length ≤ 40000) :
    Calls Tryz.prog 96 #[.slice none 0 0, .func (.func 97) #[] #[.pointer (some ⟨Bl, 0, none⟩), .pointer (some ⟨Bw, 0, none⟩)]] w fun e w' =>
      ∃ v, e = .returned v ∧ OwnC w' w.heap.size v (seenFrom who l) ∧ Below w.heap.size w w' := by
  refine (callsIn_wide (n := 5)).1 ?_
  refine callsIn_of_wp_marks Tryz.func96 rfl trivial ?_ rfl
  simp only [Tryz.ntmps96, List.size_toArray, List.length_cons, List.length_nil, Nat.reduceAdd, Nat.reduceSub, Array.replicate_succ, Array.replicate_zero, List.push_toArray, List.append_toArray, List.nil_append, List.cons_append]
  gi_wp2
  have hb0 := Boxed.new w 37 (.slice none 0 0)
  have hbl := qalloc w (.cells #[.slice none 0 0] 37)
  obtain ⟨i0, hi, hz0, hz1, hz2⟩ := info_parts infoChg
  have hlen2 : (seenFrom who l).length ≤ 40000 := Nat.le_trans (seenFrom_len who l) hlen
  have hit := seen1_iter l lv who w (w.alloc (.cells #[.slice none 0 0] 37)) hbl Bl Bw c1 c2 hr hlen hsm
  generalize hW : w.alloc (.cells #[.slice none 0 0] 37) = W0 at *
  have hsz' : w.heap.size + 1 ≤ W0.heap.size := by rw [← hW]; simp
  have own0 : W0.ownsRow w.heap.size 40 5 (.slice none 0 0) 0 [] := ⟨rfl, .inl ⟨rfl, rfl⟩⟩
  clear hW c1 c2 hr hsm
  refine wp_iter rfl (by omega) (gf := 97) (lb := #[.pointer (some ⟨Bl, 0, none⟩), .pointer (some ⟨Bw, 0, none⟩)]) rfl trivial (enters_of Tryz.func97 (by kernel_rfl) rfl)
    hit (by omega) (qrefl _)
    (fun k hk => by obtain ⟨x, _, e⟩ := seenArgs_get hk; rw [e]; rfl)
    (fun k W => (∃ v, Boxed W w.heap.size 37 v ∧ W.ownsRow w.heap.size 40 5 v k (chgCells ((seenFrom who l).take k)) ∧ True) ∧ Below w.heap.size w W)
    (fun _ _ _ => False)
    (OwnFrom.and (Own.from (holdsRow_own _ _ _ _ _ (fun k => k) (fun k => chgCells ((seenFrom who l).take k)) (fun _ _ => True)) _) (ownFrom_below (Nat.le_refl _) (by omega)))
    (fun c => ownFrom_pure _ _)
    (fun A B h k o _ ho _ => (h.block k (Array.getElem?_eq_some_iff.1 ho).1).trans ho) (fun k A B h hab => ?iab) (fun c k A B h _ => h) ⟨⟨_, hb0, own0, trivial⟩, hbl⟩
    (fun k a' W => ∃ (x : FChg) (Bx : Nat), (seenFrom who l)[k]? = some x ∧ W.heap[Bx]? = some (.cells #[.string x.path, .bool x.hasOld, .bool x.hasNew, .string x.old, .string x.fresh] 40 (0, 0)) ∧
      a' = { tmps := #[.slice none 0 0, .func (.func 97) #[] #[.pointer (some ⟨Bl, 0, none⟩), .pointer (some ⟨Bw, 0, none⟩)], .pointer (some ⟨w.heap.size, 0, none⟩), undef, .slice none 0 0, .pointer (some ⟨Bx, 0, none⟩), .func (.func 97) #[] #[.pointer (some ⟨Bl, 0, none⟩), .pointer (some ⟨Bw, 0, none⟩)], .agg #[.string x.path, .bool x.hasOld, .bool x.hasNew, .string x.old, .string x.fresh], undef, undef, undef, undef, undef], defers := [] })
    ?ax ?assign ?body ?done ?stop
  case iab =>
    obtain ⟨⟨v, hv, hrow, _⟩, hB⟩ := h
    exact ⟨⟨v, (hab.block _ hv.lt).trans hv, owns_below hrow hab, trivial⟩, qtrans hB hab⟩
  case ax =>
    rintro k a' _ A B row ⟨x, Bx, hx, hh, e⟩ hg hr
    refine ⟨x, Bx, hx, (hg.block Bx (Array.getElem?_eq_some_iff.1 hh).1 fun e' => ?_).trans hh, e⟩
    obtain ⟨_, o, ho, hc⟩ := hr Bx e'.symm
    rw [hh] at ho; cases ho; cases hc
  case assign =>
    intro lp k hk W K hi' hK
    obtain ⟨x, hx, e⟩ := seenArgs_get hk
    rw [e, chgArg]
    obtain ⟨⟨v, hv, hrow, _⟩, hB⟩ := hi'
    gi_wp2
    refine hK _ _ ((KeepsOthers.alloc _ _).from _) ((Below.refl _ W).alloc hB.size _) ⟨⟨v, hv.alloc _, hrow.alloc _, trivial⟩, hB.alloc hB.size _⟩ ⟨x, W.heap.size, hx, ?_, rfl⟩
    exact World.alloc_heap_new _ _
  case body =>
    rintro lp k hk a' W ⟨⟨v, hv, hrow, _⟩, hB⟩ ⟨x, Bx, hx, hh, rfl⟩
    have hc := hv.cell
    have hkl : k < (seenFrom who l).length := by rw [← seenArgs_len]; exact hk
    have HX := Lib.hid hx
    clear hx
    have x0 : W.cell? ⟨Bx, 0, none⟩ = some (.string x.path) := by simp [World.cell?, hh]
    have x1 : W.cell? ⟨Bx, 1, none⟩ = some (.bool x.hasOld) := by simp [World.cell?, hh]
    have x2 : W.cell? ⟨Bx, 2, none⟩ = some (.bool x.hasNew) := by simp [World.cell?, hh]
    have x3 : W.cell? ⟨Bx, 3, none⟩ = some (.string x.old) := by simp [World.cell?, hh]
    have x4 : W.cell? ⟨Bx, 4, none⟩ = some (.string x.fresh) := by simp [World.cell?, hh]
    clear hh
    gi_wp2_with (gi_at_builtin; refine wpListIn_append_own _ rfl _ _ 37 rfl w.heap.size 40 i0 _ 5 56 Tryz.underlying37 hi hz0 hz1 hz2 rfl (by decide) _ _ _ rfl (hrow.alloc _) ⟨W.heap.size, 0, none⟩ 1 1 [.string x.path, .bool x.hasOld, .bool x.hasNew, .string x.old, .string x.fresh] rfl rfl (cell_five _ _ _ _ _ _ _) (by simp [Value.oneCell']) (by unfold maxLen; omega) (by omega) (by have := hB.size; simp; omega) ?_; intro v' w1 hown' hgrow _; obtain ⟨g', cap', rfl⟩ := ownsRow_succ hown'; obtain ⟨hv1, hv2, hr2, hk2, hb2⟩ := hv.appended (by decide) hrow hB.size (Nat.le_refl _) hown' hgrow; have hc1 := hv1.cell; have hf1 := hv1.frozen)
    exact ⟨hk2.from _, hb2, ⟨_, hv2, by rw [take_at HX.out, chgCells_snoc]; exact hr2, trivial⟩, hB.trans hb2⟩
  case done =>
    rintro D W hD ⟨⟨v, hv, hrow, _⟩, hB⟩ hK
    have hc := hv.cell
    rw [seenArgs_len, List.take_of_length_le (Nat.le_refl _)] at hrow
    gi_wp2
    refine ⟨by simp, .inl ⟨_, _, rfl, run_takeDeferred hK, ?_⟩⟩
    exact ⟨_, results_tmp rfl _ _ _, v, rfl, ownsRow_putObj hrow _ hK rfl, hB.trans (belowK_b (w := w) (Nat.le_refl _) W D _ _ (by omega) hK rfl rfl)⟩
  case stop =>
    rintro D c k W _ _ h _
    exact h.elim
theorem Collect_seen (l : List OwnedC) (lv : Value) (who : ByteArray) (w : World) (Bl Bw : Nat) (c1 : w.cell? ⟨Bl, 0, none⟩ = some lv) (c2 : w.cell? ⟨Bw, 0, none⟩ = some (.string who)) (hr : Reads w [] (ownedsT l) lv) (hlen : l.length ≤ 40000) (hsm : ∀ x ∈ l, ∀ g ∈ x.2, g.length ≤ 40000) :
    Calls Tryz.prog 61 #[.func (.func 97) #[] #[.pointer (some ⟨Bl, 0, none⟩), .pointer (some ⟨Bw, 0, none⟩)]] w fun e w' =>
      ∃ v, e = .returned v ∧ OwnC w' w.heap.size v (seenFrom who l) ∧ Below w.heap.size w w' := by
  have HA := Lib.hid (AppendSeq_seen l lv who w Bl Bw c1 c2 hr hlen hsm)
  clear c1 c2 hr hsm
  go_enter Tryz.func61, Tryz.ntmps61
  go_wp2_with (fail)
  refine HA.out.mono ?_
  rintro e w1 ⟨v, rfl, h1, h2⟩
  go_wp2
  go_ret
  exact ⟨v, rfl, h1, h2⟩
/-- What a person sees of examined changes: slices.Collect(seen(l, who)). -/
theorem exam_small {old fresh : List OFile} : ∀ x ∈ examL old fresh, ∀ g ∈ x.2, g.length ≤ 40000 := by
  intro x hx g hg
  obtain ⟨c, _, rfl⟩ := List.mem_map.1 hx
  have := (ownersM_good (rulesM_good old) c.path g hg).len
  omega
theorem exam_len {old fresh : List OFile} (hl : old.length + fresh.length ≤ 4000) : (examL old fresh).length ≤ 4000 := by
  have := diff_len _ old fresh (Nat.le_refl _)
  unfold examL; rw [List.length_map]; omega
def SeenPost (x : List FChg × Int) (w : World) (e : Ending) (w' : World) : Prop := ∃ cv, e = .returned (.tuple #[cv, .int .i64 x.2]) ∧ Reads w' [] (chgsT x.1) cv ∧ Below w.heap.size w w'
set_option maxRecDepth 100000 in
set_option maxHeartbeats 2000000 in
theorem Seen_any (v1 v2 : Value) (old fresh : List OFile) (who : ByteArray) (w : World) (h1 : Reads w [] (filesT old) v1) (h2 : Reads w [] (filesT fresh) v2) (hs1 : SmallF old) (hs2 : SmallF fresh) (hl : old.length + fresh.length ≤ 4000) :
    Calls Tryz.prog 27 #[v1, v2, .string who] w (SeenPost (seenOf old fresh who) w) := by
  have HE := Lib.hid (examine_any v1 v2 old fresh w h1 h2 hs1 hs2 hl)
  have HZ := exam_len hl
  obtain ⟨a1, cap1, rfl, hc1, hd1⟩ := files_val h1
  obtain ⟨a2, cap2, rfl, hc2, hd2⟩ := files_val h2
  have HR : Hid (seenOf old fresh who = if treesErr old fresh = 0 then (seenL old fresh who, 0) else ([], treesErr old fresh)) := rfl
  have HX : Hid (examineOf old fresh = if treesErr old fresh = 0 then (examL old fresh, 0) else ([], treesErr old fresh)) := rfl
  have HS : Hid (seenFrom who (examL old fresh) = seenL old fresh who) := seenFrom_exam old fresh who
  have HM := Lib.hid (exam_small (old := old) (fresh := fresh))
  clear h1 h2 hs1 hs2
  by_cases e1 : treesErr old fresh = 0
  · rw [HX.out, if_pos e1] at HE
    have HR2 : Hid (seenOf old fresh who = (seenL old fresh who, 0)) := by show _ = _; rw [HR.out, if_pos e1]
    clear HR HX e1
    generalize examL old fresh = l at *
    generalize seenL old fresh who = s at *
    go_enter Tryz.func27, Tryz.ntmps27
    go_wp2_with (fail)
    refine HE.out.mono ?_
    rintro e w1 ⟨lv, rfl, hlv, hb1⟩
    simp only [] at hlv
    obtain ⟨la, lc, rfl, -, -⟩ := owneds_val hlv
    have HLV := Lib.hid hlv
    clear hlv HE
    go_wp2_with (fail)
    refine (seen_any _ _ _ who w1).mono ?_
    rintro e w2 ⟨rfl, rfl⟩
    have hA1 := qalloc w1 (.cells #[.slice la l.length lc] 102)
    have hA2 := qalloc (w1.alloc (.cells #[.slice la l.length lc] 102)) (.cells #[.string who] 9)
    have hB1 := (CBox.new w1 102 #[.slice la l.length lc]).below hA2
    have hB2 := CBox.new (w1.alloc (.cells #[.slice la l.length lc] 102)) 9 #[.string who]
    rw [World.size_alloc] at hB2
    have HC := Lib.hid (Collect_seen l (.slice la l.length lc) who _ w1.heap.size (w1.heap.size + 1) (hB1.cell (i := 0) rfl) (hB2.cell (i := 0) rfl) ((HLV.out.below hA1).below hA2) (by omega) HM.out)
    have hb2 := qtrans hb1 (qtrans hA1 hA2)
    clear hB1 hB2 hA1 hA2 hb1 HLV
    generalize (w1.alloc (.cells #[.slice la l.length lc] 102)).alloc (.cells #[.string who] 9) = w2 at *
    go_wp2_with (fail)
    refine HC.out.mono ?_
    rintro e w3 ⟨cv, rfl, hcv, hb3⟩
    rw [HS.out] at hcv
    have HCV := Lib.hid hcv.reads
    obtain ⟨ca, cc, rfl, -, -⟩ := chgs_val hcv.reads
    clear hcv HC
    go_wp2
    go_ret2
    rw [HR2.out]
    exact ⟨_, rfl, HCV.out, qtrans hb2 hb3⟩
  · rw [HX.out, if_neg e1] at HE
    have HR2 : Hid (seenOf old fresh who = ([], treesErr old fresh)) := by show _ = _; rw [HR.out, if_neg e1]
    have hne : (treesErr old fresh != 0) = true := by simpa using e1
    clear HR HX e1
    generalize treesErr old fresh = q at *
    go_enter Tryz.func27, Tryz.ntmps27
    go_wp2_with (fail)
    refine HE.out.mono ?_
    rintro e w1 ⟨lv, rfl, hlv, hb1⟩
    simp only [] at hlv
    obtain ⟨la, lc, rfl, -, -⟩ := owneds_val hlv
    clear hlv HE
    go_wp2
    go_ret2
    rw [HR2.out]
    exact ⟨_, rfl, Reads.nilRow _ _ _ _, hb1⟩
end Go.Proofs.YtidkpnabdfiilaaGreatDoor
