/- A range over an iterator that hands out a known list of argument arrays, and that may write cells of its own (a captured variable): the statement's law. No program in sight. -/
import Derived.RangeFuncNested
import Derived.RangeFuncBound
import Derived.RangeFuncCalls
import Derived.RangeFuncLeaves
import Derived.Shelf.Abstract
import Derived.Shelf.RegionOpen
import Derived.WalkKit
import Derived.OwnWalkIn
import Derived.TacticsInMore
import Derived.LoopNIn
import Derived.LoopIn
namespace Go.Proofs.YtgcmekpfhagnbaaDoor
open Go.RowKit

variable {F : Fence} {n : Nat} {P : Program}

/-- The iterator hands out 'args', in order; between two rounds it does no more than 'Ab' lets; a round keeps all that lies below n₀. -/
def Iter (F : Fence) (n : Nat) (P : Program) (gf : Nat) (lb : Array Value) (args : List (Array Value)) (n₀ : Nat) (Ab : World → World → Prop) (w : World) : Prop :=
  ∀ (l : Nat) (J Jx : Nat → World → Prop) (W : World), Below w.heap.size w W → (∀ k A B, J k A → Ab A B → J k B) → (∀ k A B, Jx k A → Ab A B → Jx k B) →
    (∀ k (hk : k < args.length) W1, J k W1 → YieldAt F (n - 1) P l args[k] W1 fun e W' =>
      (e = .returned (.bool true) ∧ J (k + 1) W' ∧ Below n₀ W1 W') ∨ (e = .returned (.bool false) ∧ Jx (k + 1) W')) →
    J 0 W →
    CallsIn F n P gf (#[.func (.yield l) #[] #[]] ++ lb) W fun e W' => (∃ v, e = .returned v) ∧ (J args.length W' ∨ ∃ k, k ≤ args.length ∧ Jx k W')

/-- How the body of a round may be left. -/
def iterPost (B n₀ : Nat) (I : Nat → World → Prop) (Ix : Code → Nat → World → Prop) (k : Nat) (W : World) : Exit → Act → World → Prop
  | .normal, _, W' => KeepsFrom B W W' ∧ Below n₀ W W' ∧ I k W'
  | .ret, _, W' => KeepsFrom B W W' ∧ Ix .ret k W'
  | .exit id, _, W' => KeepsFrom B W W' ∧ Ix (.exit id) k W'
  | .goto t, _, W' => KeepsFrom B W W' ∧ Ix (.goto t) k W'
  | .panic _, _, _ => False
  | .outgrown, _, _ => False

theorem wp_iter {g : Operand} {ps : Array Tmp} {assign body : Code} {Q : Exit → Act → World → Prop} {a : Act} {w : World}
    (hro : F.round = none) (h1 : 1 ≤ n) {gf : Nat} {lb : Array Value} (hg : a.eval g = .func (.func gf) #[] lb) (hFg : F.fn gf) (eg : ∀ args w, (callFunc gf args).run P w = .ok (.enter gf args) w)
    {args : List (Array Value)} {n₀ : Nat} {Ab : World → World → Prop} {w0 : World} (hseq : Iter F (n - 1) P gf lb args n₀ Ab w0) (hn₀ : n₀ ≤ w.heap.size) (hb0 : Below w0.heap.size w0 w)
    (hps : ∀ k (hk : k < args.length), args[k].size = ps.size)
    (I : Nat → World → Prop) (Ix : Code → Nat → World → Prop) (hI : OwnFrom w.heap.size I) (hIx : ∀ c, OwnFrom w.heap.size (Ix c))
    (hAb : ∀ A B, Ab A B → ∀ (k : Nat) (o : Obj), w.heap.size ≤ k → A.heap[k]? = some o → o.isCells = false → B.heap[k]? = some o)
    (hIA : ∀ k A B, I k A → Ab A B → I k B) (hIxA : ∀ c k A B, Ix c k A → Ab A B → Ix c k B)
    (h0 : I 0 w) (Ax : Nat → Act → World → Prop) (hAx : ∀ k a', OwnFrom w.heap.size (fun (_ : Unit) W => Ax k a' W))
    (hassign : ∀ (l : Nat) (k : Nat) (hk : k < args.length) (W : World) (K : Act → World → Prop), I k W → (∀ a' W', KeepsFrom w.heap.size W W' → Below n₀ W W' → I k W' → Ax k a' W' → K a' W') →
      assign.wpIn (F.inRound l) (n - 1 - 1) P (Exit.then K (fun _ _ _ => False)) { tmps := (ps.zip args[k]).foldl (fun t (p, v) => t.setIfInBounds p v) a.tmps, defers := [] } W)
    (hbody : ∀ (l : Nat) (k : Nat) (_ : k < args.length) (a' : Act) (W : World), I k W → Ax k a' W → body.wpIn (F.inRound l) (n - 1 - 1) P (iterPost w.heap.size n₀ I Ix (k + 1) W) a' W)
    (hdone : ∀ (D : Nat) (W : World), w.heap.size ≤ D → I args.length W → W.heap[D]? = some (.deferred (some [])) → Q .normal { a with defers := { target := .collected D, args := #[] } :: a.defers } W)
    (hstop : ∀ (D : Nat) (c : Code) (k : Nat) (W : World), w.heap.size ≤ D → k ≤ args.length → Ix c k W → W.heap[D]? = some (.deferred (some [])) → c.wpIn F n P Q { a with defers := { target := .collected D, args := #[] } :: a.defers } W) :
    (Code.rangeFunc g ps assign body).wpIn F n P Q a w := by
  refine wpIn_rangeFunc fun fn hfn => ?_
  rw [hro]
  generalize hrec : (fun (st : LoopState) (pe : Option Code) => ({ state := st, pending := pe, fn, tmps := a.tmps, params := ps, assign, body, defers := w.heap.size } : Loop)) = rec
  have hr0 : ∀ st pe, ({ state := st, pending := pe, fn, tmps := a.tmps, params := ps, assign, body, defers := w.heap.size } : Loop) = rec st pe := fun st pe => by rw [← hrec]
  generalize hW1 : (w.alloc (.deferred (some []))).alloc (.loop (rec .ready none)) = W1
  have hsz1 : W1.heap.size = w.heap.size + 2 := by rw [← hW1]; simp
  have hL1 : W1.heap[w.heap.size + 1]? = some (.loop (rec .ready none)) := by
    rw [← hW1]; have := World.alloc_heap_new (w.alloc (.deferred (some []))) (.loop (rec .ready none)); rwa [World.size_alloc] at this
  have hK1 : W1.heap[w.heap.size]? = some (.deferred (some [])) := by
    rw [← hW1]; exact (Below.heap_alloc _ _ _ (by simp)).trans (World.alloc_heap_new w _)
  have hI1 : I 0 W1 := by rw [← hW1]; exact hI.alloc _ (hI.alloc _ h0)
  have hb1 : Below w0.heap.size w0 W1 := by
    rw [← hW1]; exact hb0.trans ((((Below.refl _ w).alloc (Nat.le_refl _) _).alloc (by simp) _).mono hb0.size)
  have hKb : ∀ (W : World) (o o' : Obj), W.heap[w.heap.size + 1]? = some o → o.isCells = false → o.isWalk = false → Below n₀ W (W.putObj (w.heap.size + 1) o') :=
    fun W o o' h hc hw => belowK_b (w := w) hn₀ W _ o o' (by omega) h hc hw
  refine ⟨w.heap.size + 1, [{ target := .collected w.heap.size, args := #[] }], W1, { target := .fn (.func gf) lb, args := #[.func (.yield (w.heap.size + 1)) #[] #[]] }, W1, gf,
    #[.func (.yield (w.heap.size + 1)) #[] #[]] ++ lb, W1, ?_, ?_, ?_, ?_, fun _ => h1, ?_⟩
  · rw [← hW1, ← hr0]; exact run_enterLoop_outer _ _ _ _ _
  · simp only [resolve, hg]
    simp [go_sem]
  · intro f' hf'; simp [Target.leads] at hf'; subst hf'; exact hFg
  · simp [invoke, go_sem, eg]
  · refine (hseq (w.heap.size + 1)
      (fun k W => I k W ∧ W.heap[w.heap.size + 1]? = some (.loop (rec .ready none)) ∧ W.heap[w.heap.size]? = some (.deferred (some [])))
      (fun k W => ∃ c, Ix c k W ∧ W.heap[w.heap.size + 1]? = some (.loop (rec .done (some c))) ∧ W.heap[w.heap.size]? = some (.deferred (some [])))
      W1 hb1
      (fun k A B hs hab => ⟨hIA k A B hs.1 hab, hAb A B hab _ _ (by omega) hs.2.1 rfl, hAb A B hab _ _ (by omega) hs.2.2 rfl⟩)
      (fun k A B hs hab => by
        obtain ⟨c, hc, hl, hk⟩ := hs
        exact ⟨c, hIxA c k A B hc hab, hAb A B hab _ _ (by omega) hl rfl, hAb A B hab _ _ (by omega) hk rfl⟩)
      ?_ ⟨hI1, hL1, hK1⟩).mono ?_
    · rintro k hk W ⟨hi, hl, hd⟩
      have hy := run_yield (P := P) (args := args[k]) hl (by rw [← hr0]; exact hps k hk)
      rw [← hr0] at hy
      refine ⟨fn, _, assign, body, hy, roundIn_of_wpIn hfn (hassign _ k hk W _ hi ?_)⟩
      clear hy
      intro a' Wa hkfa hkpa hia hax
      have hla := hkfa.same _ _ (by omega) hl rfl
      have hda := hkfa.same _ _ (Nat.le_refl _) hd rfl
      have hlt : w.heap.size + 1 < Wa.heap.size := (Array.getElem?_eq_some_iff.1 hla).1
      refine ⟨_, run_beginRound hla (by rw [← hr0]), ?_⟩
      have hl2 : (Wa.putObj (w.heap.size + 1) (.loop { rec .ready none with state := .busy })).heap[w.heap.size + 1]? = some (.loop { rec .ready none with state := .busy }) := World.putObj_heap_same hlt
      have hd2 : (Wa.putObj (w.heap.size + 1) (.loop { rec .ready none with state := .busy })).heap[w.heap.size]? = some (.deferred (some [])) := (World.putObj_heap_other (by omega)).trans hda
      have hw2 := hKb Wa _ (.loop { rec .ready none with state := .busy }) hla rfl rfl
      refine wpIn_mono (hbody _ k hk a' _ (hI.putObj _ hia (by omega) hla rfl) ((hAx k a').putObj (s := ()) _ hax (by omega) hla rfl)) ?_
      have fin : ∀ (jump : Option Code) (W3 : World), KeepsFrom w.heap.size (Wa.putObj (w.heap.size + 1) (.loop { rec .ready none with state := .busy })) W3 →
          (Instr.endRound (w.heap.size + 1) jump).run P W3 = .ok (.bool jump.isNone) (W3.putObj (w.heap.size + 1) (.loop (rec (if jump.isNone then .ready else .done) jump))) ∧
          (∃ o, W3.heap[w.heap.size + 1]? = some (.loop o)) ∧
          (W3.putObj (w.heap.size + 1) (.loop (rec (if jump.isNone then .ready else .done) jump))).heap[w.heap.size + 1]? = some (.loop (rec (if jump.isNone then .ready else .done) jump)) ∧
          (W3.putObj (w.heap.size + 1) (.loop (rec (if jump.isNone then .ready else .done) jump))).heap[w.heap.size]? = some (.deferred (some [])) := fun jump W3 hk3 => by
        have hl3 := hk3.same _ _ (by omega) hl2 rfl
        have := run_endRound (P := P) jump hl3
        rw [← hr0] at this ⊢
        exact ⟨this, ⟨_, hl3⟩, World.putObj_heap_same (Array.getElem?_eq_some_iff.1 hl3).1, (World.putObj_heap_other (by omega)).trans (hk3.same _ _ (Nat.le_refl _) hd2 rfl)⟩
      rintro e a3 W3 hp
      cases e with
      | normal =>
        obtain ⟨hk3, hkp3, hi3⟩ := hp
        obtain ⟨hr, ⟨o, hl3⟩, hl4, hd4⟩ := fin none W3 hk3
        exact ⟨_, _, hr, .inl ⟨rfl, ⟨hI.putObj _ hi3 (by omega) hl3 rfl, hl4, hd4⟩, hkpa.trans ((hw2.trans hkp3).trans (hKb _ _ _ hl3 rfl rfl))⟩⟩
      | ret =>
        obtain ⟨hk3, hi3⟩ := hp
        obtain ⟨hr, ⟨o, hl3⟩, hl4, hd4⟩ := fin (some .ret) W3 hk3
        exact ⟨_, _, hr, .inr ⟨rfl, .ret, (hIx _).putObj _ hi3 (by omega) hl3 rfl, hl4, hd4⟩⟩
      | exit id =>
        obtain ⟨hk3, hi3⟩ := hp
        obtain ⟨hr, ⟨o, hl3⟩, hl4, hd4⟩ := fin (some (.exit id)) W3 hk3
        exact ⟨_, _, hr, .inr ⟨rfl, .exit id, (hIx _).putObj _ hi3 (by omega) hl3 rfl, hl4, hd4⟩⟩
      | goto t =>
        obtain ⟨hk3, hi3⟩ := hp
        obtain ⟨hr, ⟨o, hl3⟩, hl4, hd4⟩ := fin (some (.goto t)) W3 hk3
        exact ⟨_, _, hr, .inr ⟨rfl, .goto t, (hIx _).putObj _ hi3 (by omega) hl3 rfl, hl4, hd4⟩⟩
      | panic ch => exact hp.elim
      | outgrown => exact hp.elim
    · rintro e W2 ⟨⟨v, rfl⟩, (⟨hi, hl, hd⟩ | ⟨k, hk, c, hi, hl, hd⟩)⟩
      · exact ⟨none, _, by have := run_endLoop (P := P) hl (by rw [← hr0]; simp); rw [← hr0] at this; exact this, hdone _ _ (Nat.le_refl _) (hI.putObj _ hi (by omega) hl rfl) ((World.putObj_heap_other (by omega)).trans hd)⟩
      · exact ⟨some c, _, by have := run_endLoop (P := P) hl (by rw [← hr0]; simp); rw [← hr0] at this; exact this, hstop _ c k _ (Nat.le_refl _) hk ((hIx c).putObj _ hi (by omega) hl rfl) ((World.putObj_heap_other (by omega)).trans hd)⟩
end Go.Proofs.YtgcmekpfhagnbaaDoor
