/- slices.AppendSeq and slices.Collect over buildfile.words. -/
import Derived.Test.YtgcmekpfhagnbaaDoorWdA
import Derived.Test.YtgcmekpfhagnbaaDoorLexE
import Derived.Maps.AppendAt
namespace Go.Proofs.YtgcmekpfhagnbaaDoor
open Go.RowKit Go.Shelf
attribute [local go_sem] Oper.semAt_some

def wordCells (ws : List (ByteArray × Nat)) : List Value := ws.flatMap fun x => [.string x.1, .int .i64 x.2]
theorem wordCells_len (ws : List (ByteArray × Nat)) : (wordCells ws).length = ws.length * 2 := by
  induction ws with
  | nil => rfl
  | cons a r ih =>
    have : wordCells (a :: r) = [.string a.1, .int .i64 a.2] ++ wordCells r := rfl
    rw [this, List.length_append, ih, List.length_cons, List.length_cons, List.length_cons, List.length_nil]; omega
theorem wordCells_snoc (ws : List (ByteArray × Nat)) (x : ByteArray × Nat) : wordCells (ws ++ [x]) = wordCells ws ++ [.string x.1, .int .i64 x.2] := by simp [wordCells]
theorem infoWord : (Tryd.prog.info? 47).map (fun i => (i.zero, i.size, i.bytes)) = some (some (.agg #[.string ⟨#[]⟩, .int .i64 0]), 2, 24) := by kernel_rfl
theorem cell_two (w : World) (x y : Value) (t : TypeId) : ∀ j u, [x, y][j]? = some u → (w.alloc (.cells #[x, y] t)).cell? ((⟨w.heap.size, 0, none⟩ : Addr).add j) = some u := by
  intro j u hj
  match j, hj with
  | 0, hj => simp at hj; subst hj; simp [Addr.add]
  | 1, hj => simp at hj; subst hj; simp [Addr.add]
  | (j + 2), hj => simp at hj
theorem words_any (s : ByteArray) (w : World) :
    Calls Tryd.prog 26 #[.string s] w fun e w' => e = .returned (.func (.func 53) #[] #[.pointer (some ⟨w.heap.size, 0, none⟩)]) ∧ w.alloc (.cells #[.string s] 9) = w' := by
  go_enter Tryd.func26, Tryd.ntmps26
  go_wp2
  go_ret
  exact ⟨rfl, rfl⟩
theorem wordArgs_len (s : ByteArray) : (wordArgs s).length = (wordsOf s).length := by simp [wordArgs]
theorem wordArgs_get {s : ByteArray} {k : Nat} (hk : k < (wordArgs s).length) : ∃ x, (wordsOf s)[k]? = some x ∧ (wordArgs s)[k] = wordArg x := by
  have hk' : k < (wordsOf s).length := by rw [← wordArgs_len]; exact hk
  have h : (wordArgs s)[k]? = some (wordArg (wordsOf s)[k]) := by unfold wordArgs; rw [List.getElem?_map, List.getElem?_eq_getElem hk']; rfl
  exact ⟨(wordsOf s)[k], List.getElem?_eq_getElem hk', (List.getElem?_eq_some_iff.1 h).2⟩
theorem take_at {α : Type} {l : List α} {k : Nat} {x : α} (h : l[k]? = some x) : l.take (k + 1) = l.take k ++ [x] := by
  obtain ⟨hk, e⟩ := List.getElem?_eq_some_iff.1 h
  rw [List.take_succ_eq_append_getElem hk, e]

set_option maxHeartbeats 1000000 in
theorem AppendSeq_words (s : ByteArray) (hs : s.size ≤ 40000) (w : World) (Bs : Nat) (c1 : w.cell? ⟨Bs, 0, none⟩ = some (.string s)) :
    Calls Tryd.prog 52 #[.slice none 0 0, .func (.func 53) #[] #[.pointer (some ⟨Bs, 0, none⟩)]] w fun e w' =>
      ∃ v, e = .returned v ∧ w'.ownsRow w.heap.size 47 2 v (wordsOf s).length (wordCells (wordsOf s)) ∧ Below w.heap.size w w' := by
  have hBs : Bs < w.heap.size := lt_of_cell c1
  refine (callsIn_wide (n := 5)).1 ?_
  refine callsIn_of_wp_marks Tryd.func52 rfl trivial ?_ rfl
  simp only [Tryd.ntmps52, List.size_toArray, List.length_cons, List.length_nil, Nat.reduceAdd, Nat.reduceSub, Array.replicate_succ, Array.replicate_zero, List.push_toArray, List.append_toArray, List.nil_append, List.cons_append]
  gi_wp2
  have hb0 := Boxed.new w 44 (.slice none 0 0)
  have hbl := qalloc w (.cells #[.slice none 0 0] 44)
  have c1' : (w.alloc (.cells #[.slice none 0 0] 44)).cell? ⟨Bs, 0, none⟩ = some (.string s) := (hbl.cell (p := ⟨Bs, 0, none⟩) hBs).trans c1
  obtain ⟨i0, hi, hz0, hz1, hz2⟩ := info_parts infoWord
  have hlen := wordsOf_length s
  generalize hW : w.alloc (.cells #[.slice none 0 0] 44) = W0 at *
  have hsz' : w.heap.size + 1 ≤ W0.heap.size := by rw [← hW]; simp
  have own0 : W0.ownsRow w.heap.size 47 2 (.slice none 0 0) 0 [] := ⟨rfl, .inl ⟨rfl, rfl⟩⟩
  clear hW c1
  refine wp_iter rfl (by omega) (gf := 53) (lb := #[.pointer (some ⟨Bs, 0, none⟩)]) rfl trivial (enters_of Tryd.func53 (by kernel_rfl) rfl)
    (words1_iter s hs W0 Bs w.heap.size (by omega) hBs c1') (by omega) (qrefl _)
    (fun k hk => by obtain ⟨x, _, e⟩ := wordArgs_get hk; rw [e]; rfl)
    (fun k W => (∃ v, Boxed W w.heap.size 44 v ∧ W.ownsRow w.heap.size 47 2 v k (wordCells ((wordsOf s).take k)) ∧ True) ∧ Below w.heap.size w W)
    (fun _ _ _ => False)
    (OwnFrom.and (Own.from (holdsRow_own _ _ _ _ _ (fun k => k) (fun k => wordCells ((wordsOf s).take k)) (fun _ _ => True)) _) (ownFrom_below (Nat.le_refl _) (by omega)))
    (fun c => ownFrom_pure _ _)
    (fun A B h => h.elim) (fun k A B _ h => h.elim) (fun c k A B _ h => h.elim) ⟨⟨_, hb0, own0, trivial⟩, hbl⟩
    (fun k a' W => ∃ (x : ByteArray × Nat) (Bx : Nat), (wordsOf s)[k]? = some x ∧ W.heap[Bx]? = some (.cells #[.string x.1, .int .i64 x.2] 47 (0, 0)) ∧
      a' = { tmps := #[.slice none 0 0, .func (.func 53) #[] #[.pointer (some ⟨Bs, 0, none⟩)], .pointer (some ⟨w.heap.size, 0, none⟩), undef, .slice none 0 0, .pointer (some ⟨Bx, 0, none⟩), .func (.func 53) #[] #[.pointer (some ⟨Bs, 0, none⟩)], .agg #[.string x.1, .int .i64 x.2], undef, undef, undef, undef, undef], defers := [] })
    ?ax ?assign ?body ?done ?stop
  case ax =>
    rintro k a' _ A B row ⟨x, Bx, hx, hh, e⟩ hg hr
    refine ⟨x, Bx, hx, (hg.block Bx (Array.getElem?_eq_some_iff.1 hh).1 fun e' => ?_).trans hh, e⟩
    obtain ⟨_, o, ho, hc⟩ := hr Bx e'.symm
    rw [hh] at ho; cases ho; cases hc
  case assign =>
    intro l k hk W K hi' hK
    obtain ⟨x, hx, e⟩ := wordArgs_get hk
    rw [e, wordArg]
    obtain ⟨⟨v, hv, hrow, _⟩, hB⟩ := hi'
    gi_wp2
    refine hK _ _ ((KeepsOthers.alloc _ _).from _) ((Below.refl _ W).alloc hB.size _) ⟨⟨v, hv.alloc _, hrow.alloc _, trivial⟩, hB.alloc hB.size _⟩ ⟨x, W.heap.size, hx, ?_, rfl⟩
    exact World.alloc_heap_new _ _
  case body =>
    rintro l k hk a' W ⟨⟨v, hv, hrow, _⟩, hB⟩ ⟨x, Bx, hx, hh, rfl⟩
    have hc := hv.cell
    have hkl : k < (wordsOf s).length := by rw [← wordArgs_len]; exact hk
    have HX := Lib.hid hx
    clear hx
    have x0 : W.cell? ⟨Bx, 0, none⟩ = some (.string x.1) := by simp [World.cell?, hh]
    have x1 : W.cell? ⟨Bx, 1, none⟩ = some (.int .i64 x.2) := by simp [World.cell?, hh]
    clear hh
    gi_wp2_with (gi_at_builtin; refine wpListIn_append_own _ rfl _ _ 44 rfl w.heap.size 47 i0 _ 2 24 Tryd.underlying44 hi hz0 hz1 hz2 rfl (by decide) _ _ _ rfl (hrow.alloc _) ⟨W.heap.size, 0, none⟩ 1 1 [.string x.1, .int .i64 x.2] rfl rfl (cell_two _ _ _ _) (by simp [Value.oneCell']) (by unfold maxLen; omega) (by omega) (by have := hB.size; simp; omega) ?_; intro v' w1 hown' hgrow _; obtain ⟨g', cap', rfl⟩ := ownsRow_succ hown'; obtain ⟨hv1, hv2, hr2, hk2, hb2⟩ := hv.appended (by decide) hrow hB.size (Nat.le_refl _) hown' hgrow; have hc1 := hv1.cell; have hf1 := hv1.frozen)
    exact ⟨hk2.from _, hb2, ⟨_, hv2, by rw [take_at HX.out, wordCells_snoc]; exact hr2, trivial⟩, hB.trans hb2⟩
  case done =>
    rintro D W hD ⟨⟨v, hv, hrow, _⟩, hB⟩ hK
    have hc := hv.cell
    rw [wordArgs_len, List.take_of_length_le (Nat.le_refl _)] at hrow
    gi_wp2
    refine ⟨by simp, .inl ⟨_, _, rfl, run_takeDeferred hK, ?_⟩⟩
    exact ⟨_, results_tmp rfl _ _ _, v, rfl, ownsRow_putObj hrow _ hK rfl, hB.trans (belowK_b (w := w) (Nat.le_refl _) W D _ _ (by omega) hK rfl rfl)⟩
  case stop =>
    rintro D c k W _ _ h _
    exact h.elim
end Go.Proofs.YtgcmekpfhagnbaaDoor
