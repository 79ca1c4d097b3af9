/- The chapter's two examples, and awake. -/
import Derived.Test.YtgcmekpfhagnbaaDoorPsB
import Derived.Test.YtgcmekpfhagnbaaDoorBfH
namespace Go.Proofs.YtgcmekpfhagnbaaDoor
open Go.RowKit

/-! The same functions over the bytes themselves, which the kernel can reckon. -/
def kindC (ws : Words) : Option Int := if (headT ws).data.toList == b_lib.data.toList then some 1 else if (headT ws).data.toList == b_test.data.toList then some 2 else none
def listC (txt : ByteArray) (vb : ByteArray → Bool) (ws : Words) : List ByteArray × Bool × Words :=
  if (headT ws).data.toList == txt.data.toList then ((takeV vb ws.tail).1, decide (0 < (takeV vb ws.tail).1.length), (takeV vb ws.tail).2) else ([], true, ws)
def stepC (j : Nat) (st : St) : Bool × St :=
  match j with
  | 0 => match kindC st.ws with
    | some k => (true, ⟨st.ws.tail, k, ⟨#[]⟩, [], []⟩)
    | none => (false, ⟨st.ws, 2, ⟨#[]⟩, [], []⟩)
  | 1 => if freeNameS (headT st.ws) then (true, ⟨st.ws.tail, st.kd, headT st.ws, st.ds, st.vs⟩) else (false, ⟨st.ws, st.kd, headT st.ws, st.ds, st.vs⟩)
  | 2 => ((listC bb_deps freeLabelS st.ws).2.1, ⟨(listC bb_deps freeLabelS st.ws).2.2, st.kd, st.nm, (listC bb_deps freeLabelS st.ws).1, st.vs⟩)
  | 3 => ((listC bb_visible viewerS st.ws).2.1, ⟨(listC bb_visible viewerS st.ws).2.2, st.kd, st.nm, st.ds, (listC bb_visible viewerS st.ws).1⟩)
  | _ => if (headT st.ws).data.toList == b_semi.data.toList then (true, ⟨st.ws.tail, st.kd, st.nm, st.ds, st.vs⟩) else (false, st)
def stepsC (j : Nat) : Nat → St → Bool × St
  | 0, st => (true, st)
  | n + 1, st => if (stepC j st).1 then stepsC (j + 1) n (stepC j st).2 else (false, (stepC j st).2)
def parseC : Nat → St → List Rule → Except Words (List Rule)
  | 0, _, rs => .ok rs
  | f + 1, st, rs => if st.ws.length = 0 then .ok rs else
      if (stepsC 0 5 st).1 then parseC f (stepsC 0 5 st).2 (rs ++ [ruleOf (stepsC 0 5 st).2]) else .error (stepsC 0 5 st).2.ws
theorem kindC_eq (ws : Words) : kindOf ws = kindC ws := by unfold kindOf kindC; rw [tl, tl, tl]
theorem listC_eq (txt : ByteArray) (vb : ByteArray → Bool) (ws : Words) : listOf txt vb ws = listC txt vb ws := by unfold listOf listC; rw [tl, tl]
theorem stepC_eq (j : Nat) (st : St) : step j st = stepC j st := by
  match j with
  | 0 => simp only [step, stepC, kindC_eq]; rfl
  | 1 => rfl
  | 2 => simp only [step, stepC, listC_eq]
  | 3 => simp only [step, stepC, listC_eq]
  | (n + 4) => simp only [step, stepC, tl]
theorem stepsC_eq : ∀ (n j : Nat) (st : St), stepsFrom j n st = stepsC j n st
  | 0, _, _ => rfl
  | n + 1, j, st => by rw [stepsFrom, stepsC, stepC_eq, stepsC_eq n]
theorem parseC_eq : ∀ (f : Nat) (st : St) (rs : List Rule), parseW f st rs = parseC f st rs
  | 0, _, _ => rfl
  | f + 1, st, rs => by rw [parseW, parseC, stepsC_eq, parseC_eq f]
def ex1 : ByteArray := ⟨#[108, 105, 98, 32, 108, 105, 115, 116, 32, 100, 101, 112, 115, 32, 98, 97, 115, 101, 32, 118, 105, 115, 105, 98, 108, 101, 32, 97, 47, 32, 59]⟩
def ex2 : ByteArray := ⟨#[108, 105, 98, 32, 108, 105, 115, 116, 32, 100, 101, 112, 115, 32, 59]⟩
def exRule : Rule := ⟨1, ⟨#[108, 105, 115, 116]⟩, [⟨#[98, 97, 115, 101]⟩], [⟨#[97, 47]⟩]⟩
theorem ex1_words : wordsOf ex1 = [(b_lib, 0), (⟨#[108, 105, 115, 116]⟩, 4), (bb_deps, 9), (⟨#[98, 97, 115, 101]⟩, 14), (bb_visible, 19), (⟨#[97, 47]⟩, 27), (b_semi, 30)] := by kernel_rfl
theorem ex1_parse : parseC 7 ⟨[(b_lib, 0), (⟨#[108, 105, 115, 116]⟩, 4), (bb_deps, 9), (⟨#[98, 97, 115, 101]⟩, 14), (bb_visible, 19), (⟨#[97, 47]⟩, 27), (b_semi, 30)], 0, ⟨#[]⟩, [], []⟩ [] = .ok [exRule] := by kernel_rfl
theorem ex1_check : checkErr [exRule] = 0 := by kernel_rfl
theorem ex2_words : wordsOf ex2 = [(b_lib, 0), (⟨#[108, 105, 115, 116]⟩, 4), (bb_deps, 9), (b_semi, 14)] := by kernel_rfl
theorem ex2_parse : parseC 4 ⟨[(b_lib, 0), (⟨#[108, 105, 115, 116]⟩, 4), (bb_deps, 9), (b_semi, 14)], 0, ⟨#[]⟩, [], []⟩ [] = .error [(b_semi, 14)] := by kernel_rfl
theorem ex1_R : parseR ex1 = ([exRule], 0, 0) := by
  unfold parseR
  rw [ex1_words, parseC_eq, List.length_cons, List.length_cons, List.length_cons, List.length_cons, List.length_cons, List.length_cons, List.length_cons, List.length_nil, ex1_parse]
  simp only
  rw [if_pos ex1_check]
theorem ex2_R : parseR ex2 = ([], 14, 3) := by
  unfold parseR
  rw [ex2_words, parseC_eq, List.length_cons, List.length_cons, List.length_cons, List.length_cons, List.length_nil, ex2_parse]
  rfl

theorem strs_one (w : World) (b : Nat) (s : ByteArray) (t : TypeId) (m : Nat × Nat) (h : w.heap[b]? = some (.cells #[.string s] t m)) : Strs w (.slice (some ⟨b, 0, none⟩) 1 1) [s] := by
  refine ⟨rfl, _, _, rfl, Nat.le_refl _, by unfold maxLen; omega, fun _ => ⟨b, 0, rfl, (Array.getElem?_eq_some_iff.1 h).1, fun j u hj => ?_⟩⟩
  match j, hj with
  | 0, hj => simp at hj; subst hj; simp [World.cell?, h]
  | (j + 1), hj => simp at hj
theorem exRules (w : World) : IsRules (((w.alloc (.cells #[.string ⟨#[98, 97, 115, 101]⟩] 9)).alloc (.cells #[.string ⟨#[97, 47]⟩] 9)).alloc (.cells #[.int .i64 1, .string ⟨#[108, 105, 115, 116]⟩, .slice (some ⟨w.heap.size, 0, none⟩) 1 1, .slice (some ⟨w.heap.size + 1, 0, none⟩) 1 1] 42)) (.slice (some ⟨w.heap.size + 1 + 1, 0, none⟩) 1 1) [exRule] := by
  generalize h1 : w.alloc (.cells #[.string ⟨#[98, 97, 115, 101]⟩] 9) = w1
  have z1 : w1.heap.size = w.heap.size + 1 := by rw [← h1]; simp
  have k1 : w1.heap[w.heap.size]? = some (.cells #[.string ⟨#[98, 97, 115, 101]⟩] 9 (0, 0)) := by rw [← h1]; exact World.alloc_heap_new w _
  generalize h2 : w1.alloc (.cells #[.string ⟨#[97, 47]⟩] 9) = w2
  have z2 : w2.heap.size = w.heap.size + 1 + 1 := by rw [← h2]; simp [z1]
  have k2 : w2.heap[w.heap.size + 1]? = some (.cells #[.string ⟨#[97, 47]⟩] 9 (0, 0)) := by rw [← h2, ← z1]; exact World.alloc_heap_new w1 _
  have k1' : w2.heap[w.heap.size]? = some (.cells #[.string ⟨#[98, 97, 115, 101]⟩] 9 (0, 0)) := by rw [← h2, Below.heap_alloc _ _ _ (by omega)]; exact k1
  generalize h3 : w2.alloc (.cells #[.int .i64 1, .string ⟨#[108, 105, 115, 116]⟩, .slice (some ⟨w.heap.size, 0, none⟩) 1 1, .slice (some ⟨w.heap.size + 1, 0, none⟩) 1 1] 42) = w3
  have k3 : w3.heap[w.heap.size + 1 + 1]? = some (.cells #[.int .i64 1, .string ⟨#[108, 105, 115, 116]⟩, .slice (some ⟨w.heap.size, 0, none⟩) 1 1, .slice (some ⟨w.heap.size + 1, 0, none⟩) 1 1] 42 (0, 0)) := by rw [← h3, ← z2]; exact World.alloc_heap_new w2 _
  have k2' : w3.heap[w.heap.size + 1]? = some (.cells #[.string ⟨#[97, 47]⟩] 9 (0, 0)) := by rw [← h3, Below.heap_alloc _ _ _ (by omega)]; exact k2
  have k1'' : w3.heap[w.heap.size]? = some (.cells #[.string ⟨#[98, 97, 115, 101]⟩] 9 (0, 0)) := by rw [← h3, Below.heap_alloc _ _ _ (by omega)]; exact k1'
  refine ⟨[.int .i64 1, .string ⟨#[108, 105, 115, 116]⟩, .slice (some ⟨w.heap.size, 0, none⟩) 1 1, .slice (some ⟨w.heap.size + 1, 0, none⟩) 1 1], ⟨rfl, _, _, rfl, Nat.le_refl _, by unfold maxLen; omega, fun _ => ⟨_, 0, rfl, (Array.getElem?_eq_some_iff.1 k3).1, fun j u hj => ?_⟩⟩,
    _, _, [], rfl, ⟨strs_one _ _ _ _ _ k1'', by simp⟩, ⟨strs_one _ _ _ _ _ k2', by simp⟩, rfl⟩
  match j, hj with
  | 0, hj => simp at hj; subst hj; simp [World.cell?, k3]
  | 1, hj => simp at hj; subst hj; simp [World.cell?, k3]
  | 2, hj => simp at hj; subst hj; simp [World.cell?, k3]
  | 3, hj => simp at hj; subst hj; simp [World.cell?, k3]
  | (j + 4), hj => simp at hj
set_option maxRecDepth 100000 in
theorem awake_any (w : World) : Calls Tryd.prog 11 #[] w fun e w' => e = .returned (.bool true) ∧ Below w.heap.size w w' := by
  have H1 := Lib.hid (fun w => Parse_any ex1 (by decide) w)
  have H2 := Lib.hid (fun w => Parse_any ex2 (by decide) w)
  go_enter Tryd.func11, Tryd.ntmps11
  go_wp2_with (fail)
  refine (H1.out _).mono ?_
  rw [ex1_R]
  rintro e w1 ⟨v1, rfl, hr1, hb1⟩
  go_wp2_with (fail)
  refine (H2.out _).mono ?_
  rw [ex2_R]
  rintro e w2 ⟨v2, rfl, hr2, hb2⟩
  go_wp2_with (fail)
  have HR := Lib.hid (hr1.below hb2)
  have hB := qtrans hb1 hb2
  clear H1 H2 hr1 hr2
  have hA := qtrans (qtrans (qalloc w2 (.cells #[.string ⟨#[98, 97, 115, 101]⟩] 9)) (qalloc _ (.cells #[.string ⟨#[97, 47]⟩] 9))) (qalloc _ (.cells #[.int .i64 1, .string ⟨#[108, 105, 115, 116]⟩, .slice (some ⟨w2.heap.size, 0, none⟩) 1 1, .slice (some ⟨w2.heap.size + 1, 0, none⟩) 1 1] 42))
  have hEx := exRules w2
  generalize ((w2.alloc (.cells #[.string ⟨#[98, 97, 115, 101]⟩] 9)).alloc (.cells #[.string ⟨#[97, 47]⟩] 9)).alloc (.cells #[.int .i64 1, .string ⟨#[108, 105, 115, 116]⟩, .slice (some ⟨w2.heap.size, 0, none⟩) 1 1, .slice (some ⟨w2.heap.size + 1, 0, none⟩) 1 1] 42) = W3 at *
  refine (rSame_eq _ _ [exRule] _ (HR.out.below hA) hEx).mono ?_
  rintro e w4 ⟨rfl, n, rfl⟩
  clear hEx HR
  go_wp2
  go_ret
  exact ⟨rfl, below_drewN (qtrans hB hA) _⟩
end Go.Proofs.YtgcmekpfhagnbaaDoor
