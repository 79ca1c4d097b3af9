/- The reference's rule: its state in memory; the plain reading. -/
import Derived.Test.YtgcmekpfhagnbaaDoorRpC
namespace Go.Proofs.YtgcmekpfhagnbaaDoor
open Go.RowKit

def RBox (w : World) (b : Nat) (kd : Int) (nm : ByteArray) (dv vv : Value) : Prop := w.heap[b]? = some (.cells #[.int .i64 kd, .string nm, dv, vv] 42 (0, 0))
theorem RBox.cells {w : World} {b : Nat} {kd : Int} {nm : ByteArray} {dv vv : Value} (h : RBox w b kd nm dv vv) :
    b < w.heap.size ∧ w.cell? ⟨b, 0, none⟩ = some (.int .i64 kd) ∧ w.cell? ⟨b, 1, none⟩ = some (.string nm) ∧ w.cell? ⟨b, 2, none⟩ = some dv ∧ w.cell? ⟨b, 3, none⟩ = some vv ∧ ∀ o, w.frozen? ⟨b, o, none⟩ = false := by
  have h' : w.heap[b]? = _ := h
  refine ⟨(Array.getElem?_eq_some_iff.1 h').1, ?_, ?_, ?_, ?_, fun o => ?_⟩
  all_goals simp [World.cell?, World.frozen?, h']
theorem RBox.below {w w' : World} {b : Nat} {kd : Int} {nm : ByteArray} {dv vv : Value} (h : RBox w b kd nm dv vv) (m : Below w.heap.size w w') : RBox w' b kd nm dv vv := (m.block b (Array.getElem?_eq_some_iff.1 h).1).trans h
theorem RBox.mod {w w' : World} {b : Nat} {kd : Int} {nm : ByteArray} {dv vv : Value} {X : List Nat} (h : RBox w b kd nm dv vv) (m : Mod X w w') (hb : b ∉ X) : RBox w' b kd nm dv vv := m.heap h hb
theorem TBox.mod {w w' : World} {b : Nat} {v : Value} {bad : Bool} {X : List Nat} (h : TBox w b v bad) (m : Mod X w w') (hb : b ∉ X) : TBox w' b v bad := m.heap h hb
/-- A list of strings that lies in a block of its own from B on. -/
def StrL (w : World) (B : Nat) (v : Value) (ss : List ByteArray) : Prop := Strs w v ss ∧ OwnStr B w v
theorem StrL.nil (w : World) (B : Nat) : StrL w B (.slice none 0 0) [] := ⟨strsNil w, ownNil B w⟩
theorem StrL.below {w w' : World} {B : Nat} {v : Value} {ss : List ByteArray} (h : StrL w B v ss) (m : Below w.heap.size w w') : StrL w' B v ss :=
  ⟨h.1.below m, h.2.mod (Mod.of (X := []) m) (by simp)⟩
/-- A block of another type is turned. -/
theorem StrL.other {w w' : World} {B b : Nat} {v : Value} {ss : List ByteArray} {cs : Array Value} {t : TypeId} {q : Nat × Nat} (h : StrL w B v ss) (m : Mod [b] w w') (hb : w.heap[b]? = some (.cells cs t q)) (ht : t ≠ 9) : StrL w' B v ss := by
  have ne : ∀ g, v.ownBlock = some g → g ∉ [b] := fun g hg hx => by
    obtain ⟨_, cur, q', hh⟩ := h.2 g hg
    simp at hx
    subst hx
    rw [hb] at hh
    cases hh
    exact ht rfl
  refine ⟨h.1.mod m ne, fun g hg => ?_⟩
  obtain ⟨h1, cur, q', hh⟩ := h.2 g hg
  exact ⟨h1, cur, q', m.heap hh (ne g hg)⟩
/-- Where rule stands: the words that are left, whether they fit, the rule so far. -/
structure RSt (w W : World) (v0 v : Value) (ws : Words) (bad : Bool) (kd : Int) (nm : ByteArray) (dv : Value) (ds : List ByteArray) (vv : Value) (vs : List ByteArray) : Prop where
  tb : TBox W w.heap.size v bad
  ww : IsWords W v ws
  o : v.ownBlock = v0.ownBlock
  rb : RBox W (w.heap.size + 1 + 1 + 1) kd nm dv vv
  dl : StrL W w.heap.size dv ds
  vl : StrL W w.heap.size vv vs
  r1 : RBox W (w.heap.size + 1) 0 ⟨#[]⟩ (.slice none 0 0) (.slice none 0 0)
  t1 : TBox W (w.heap.size + 1 + 1) (.slice none 0 0) false
  bl : Below w.heap.size w W
  z : w.heap.size + 4 ≤ W.heap.size
  low : ∀ b, v0.ownBlock = some b → b < w.heap.size
theorem RSt.below {w W W' : World} {v0 v : Value} {ws : Words} {bad : Bool} {kd : Int} {nm : ByteArray} {dv vv : Value} {ds vs : List ByteArray} (h : RSt w W v0 v ws bad kd nm dv ds vv vs) (m : Below W.heap.size W W') : RSt w W' v0 v ws bad kd nm dv ds vv vs :=
  ⟨h.tb.below m, IsRow.below h.ww m, h.o, h.rb.below m, h.dl.below m, h.vl.below m, h.r1.below m, h.t1.below m, qtrans h.bl m, by have := m.size; have := h.z; omega, h.low⟩
/-- Other words are stored into the box. -/
theorem RSt.setT {w W : World} {v0 v : Value} {ws : Words} {bad : Bool} {kd : Int} {nm : ByteArray} {dv vv : Value} {ds vs : List ByteArray} (h : RSt w W v0 v ws bad kd nm dv ds vv vs) {v' : Value} {ws' : Words} (bad' : Bool) (hw : IsWords W v' ws') (ho : v'.ownBlock = v.ownBlock) :
    RSt w ((W.setCell ⟨w.heap.size, 0, none⟩ v').setCell ⟨w.heap.size, 1, none⟩ (.bool bad')) v0 v' ws' bad' kd nm dv ds vv vs := by
  have m : Mod [w.heap.size] W ((W.setCell ⟨w.heap.size, 0, none⟩ v').setCell ⟨w.heap.size, 1, none⟩ (.bool bad')) := ((Mod.refl _ _).setCell (by simp) _).setCell (by simp) _
  have hz := h.z
  have ho' := ho.trans h.o
  exact ⟨h.tb.set v' bad', IsRow.mod hw m (fun b hb hx => by have := h.low b (ho' ▸ hb); simp at hx; omega), ho', h.rb.mod m (by simp <;> omega), h.dl.other m h.tb (by decide), h.vl.other m h.tb (by decide), h.r1.mod m (by simp <;> omega), h.t1.mod m (by simp <;> omega), h.bl.trans (m.upto (by omega) (by simp <;> omega)), by simp; omega, h.low⟩
theorem RSt.modR {w W W' : World} {v0 v : Value} {ws : Words} {bad : Bool} {kd kd' : Int} {nm nm' : ByteArray} {dv vv dv' vv' : Value} {ds vs ds' vs' : List ByteArray} (h : RSt w W v0 v ws bad kd nm dv ds vv vs) (m : Mod [w.heap.size + 1 + 1 + 1] W W') (hs : W'.heap.size = W.heap.size)
    (hr : RBox W' (w.heap.size + 1 + 1 + 1) kd' nm' dv' vv') (hd : StrL W w.heap.size dv' ds') (hv : StrL W w.heap.size vv' vs') : RSt w W' v0 v ws bad kd' nm' dv' ds' vv' vs' := by
  have hz := h.z
  exact ⟨h.tb.mod m (by simp <;> omega), IsRow.mod h.ww m (fun b hb hx => by have := h.low b (h.o ▸ hb); simp at hx; omega), h.o, hr, hd.other m h.rb (by decide), hv.other m h.rb (by decide), h.r1.mod m (by simp <;> omega), h.t1.mod m (by simp <;> omega), h.bl.trans (m.upto (by omega) (by simp <;> omega)), by omega, h.low⟩
theorem RSt.setKind {w W : World} {v0 v : Value} {ws : Words} {bad : Bool} {kd : Int} {nm : ByteArray} {dv vv : Value} {ds vs : List ByteArray} (h : RSt w W v0 v ws bad kd nm dv ds vv vs) (kd' : Int) : RSt w (W.setCell ⟨w.heap.size + 1 + 1 + 1, 0, none⟩ (.int .i64 kd')) v0 v ws bad kd' nm dv ds vv vs :=
  h.modR ((Mod.refl _ _).setCell (by simp) _) (by simp) (heap_setCell_at h.rb 0 _) h.dl h.vl
theorem RSt.setName {w W : World} {v0 v : Value} {ws : Words} {bad : Bool} {kd : Int} {nm : ByteArray} {dv vv : Value} {ds vs : List ByteArray} (h : RSt w W v0 v ws bad kd nm dv ds vv vs) (nm' : ByteArray) : RSt w (W.setCell ⟨w.heap.size + 1 + 1 + 1, 1, none⟩ (.string nm')) v0 v ws bad kd nm' dv ds vv vs :=
  h.modR ((Mod.refl _ _).setCell (by simp) _) (by simp) (heap_setCell_at h.rb 1 _) h.dl h.vl
theorem RSt.setDeps {w W : World} {v0 v : Value} {ws : Words} {bad : Bool} {kd : Int} {nm : ByteArray} {dv vv : Value} {ds vs : List ByteArray} (h : RSt w W v0 v ws bad kd nm dv ds vv vs) {dv' : Value} {ds' : List ByteArray} (hd : StrL W w.heap.size dv' ds') : RSt w (W.setCell ⟨w.heap.size + 1 + 1 + 1, 2, none⟩ dv') v0 v ws bad kd nm dv' ds' vv vs :=
  h.modR ((Mod.refl _ _).setCell (by simp) _) (by simp) (heap_setCell_at h.rb 2 _) hd h.vl
theorem RSt.setVis {w W : World} {v0 v : Value} {ws : Words} {bad : Bool} {kd : Int} {nm : ByteArray} {dv vv : Value} {ds vs : List ByteArray} (h : RSt w W v0 v ws bad kd nm dv ds vv vs) {vv' : Value} {vs' : List ByteArray} (hv : StrL W w.heap.size vv' vs') : RSt w (W.setCell ⟨w.heap.size + 1 + 1 + 1, 3, none⟩ vv') v0 v ws bad kd nm dv ds vv' vs' :=
  h.modR ((Mod.refl _ _).setCell (by simp) _) (by simp) (heap_setCell_at h.rb 3 _) h.dl hv
theorem RSt.setDT {w W : World} {v0 v : Value} {ws : Words} {bad : Bool} {kd : Int} {nm : ByteArray} {dv vv : Value} {ds vs : List ByteArray} (h : RSt w W v0 v ws bad kd nm dv ds vv vs) {dv' : Value} {ds' : List ByteArray} (hd : StrL W w.heap.size dv' ds') {v' : Value} {ws' : Words} (bad' : Bool) (hw : IsWords W v' ws') (ho : v'.ownBlock = v.ownBlock) :
    RSt w (((W.setCell ⟨w.heap.size + 1 + 1 + 1, 2, none⟩ dv').setCell ⟨w.heap.size, 0, none⟩ v').setCell ⟨w.heap.size, 1, none⟩ (.bool bad')) v0 v' ws' bad' kd nm dv' ds' vv vs :=
  (h.setDeps hd).setT bad' (IsRow.mod hw ((Mod.refl [w.heap.size + 1 + 1 + 1] W).setCell (by simp) _) (fun b hb hx => by have := h.low b ((ho.trans h.o) ▸ hb); simp at hx; omega)) ho
theorem RSt.setVT {w W : World} {v0 v : Value} {ws : Words} {bad : Bool} {kd : Int} {nm : ByteArray} {dv vv : Value} {ds vs : List ByteArray} (h : RSt w W v0 v ws bad kd nm dv ds vv vs) {vv' : Value} {vs' : List ByteArray} (hd : StrL W w.heap.size vv' vs') {v' : Value} {ws' : Words} (bad' : Bool) (hw : IsWords W v' ws') (ho : v'.ownBlock = v.ownBlock) :
    RSt w (((W.setCell ⟨w.heap.size + 1 + 1 + 1, 3, none⟩ vv').setCell ⟨w.heap.size, 0, none⟩ v').setCell ⟨w.heap.size, 1, none⟩ (.bool bad')) v0 v' ws' bad' kd nm dv ds vv' vs' :=
  (h.setVis hd).setT bad' (IsRow.mod hw ((Mod.refl [w.heap.size + 1 + 1 + 1] W).setCell (by simp) _) (fun b hb hx => by have := h.low b ((ho.trans h.o) ▸ hb); simp at hx; omega)) ho
/-- What is handed back. -/
theorem RSt.fin {w W : World} {v0 v : Value} {ws : Words} {bad : Bool} {kd : Int} {nm : ByteArray} {dv vv : Value} {ds vs : List ByteArray} (h : RSt w W v0 v ws bad kd nm dv ds vv vs) {v' : Value} {ws' : Words} (bad' : Bool) (hw : IsWords W v' ws') (ho : v'.ownBlock = v.ownBlock) :
    ∀ WF, WF = (((((W.setCell ⟨w.heap.size + 1, 0, none⟩ (.int .i64 kd)).setCell ⟨w.heap.size + 1, 1, none⟩ (.string nm)).setCell ⟨w.heap.size + 1, 2, none⟩ dv).setCell ⟨w.heap.size + 1, 3, none⟩ vv).setCell ⟨w.heap.size + 1 + 1, 0, none⟩ v').setCell ⟨w.heap.size + 1 + 1, 1, none⟩ (.bool bad') →
    RBox WF (w.heap.size + 1) kd nm dv vv ∧ TBox WF (w.heap.size + 1 + 1) v' bad' ∧ StrL WF w.heap.size dv ds ∧ StrL WF w.heap.size vv vs ∧ IsWords WF v' ws' ∧ v'.ownBlock = v0.ownBlock ∧ Below w.heap.size w WF := by
  rintro WF rfl
  have hz := h.z
  have m1 : Mod [w.heap.size + 1] W ((((W.setCell ⟨w.heap.size + 1, 0, none⟩ (.int .i64 kd)).setCell ⟨w.heap.size + 1, 1, none⟩ (.string nm)).setCell ⟨w.heap.size + 1, 2, none⟩ dv).setCell ⟨w.heap.size + 1, 3, none⟩ vv) := ((((Mod.refl _ _).setCell (by simp) _).setCell (by simp) _).setCell (by simp) _).setCell (by simp) _
  have r1 : RBox ((((W.setCell ⟨w.heap.size + 1, 0, none⟩ (.int .i64 kd)).setCell ⟨w.heap.size + 1, 1, none⟩ (.string nm)).setCell ⟨w.heap.size + 1, 2, none⟩ dv).setCell ⟨w.heap.size + 1, 3, none⟩ vv) (w.heap.size + 1) kd nm dv vv := heap_setCell_at (heap_setCell_at (heap_setCell_at (heap_setCell_at h.r1 0 _) 1 _) 2 _) 3 _
  have ho' := ho.trans h.o
  have d1 := h.dl.other m1 h.r1 (by decide)
  have v1 := h.vl.other m1 h.r1 (by decide)
  have t1 := h.t1.mod m1 (by simp <;> omega)
  have w1 : IsWords _ v' ws' := IsRow.mod hw m1 (fun b hb hx => by have := h.low b (ho' ▸ hb); simp at hx; omega)
  have b1 := h.bl.trans (m1.upto (by omega) (by simp <;> omega))
  have z1 := m1.size
  generalize (((W.setCell ⟨w.heap.size + 1, 0, none⟩ (.int .i64 kd)).setCell ⟨w.heap.size + 1, 1, none⟩ (.string nm)).setCell ⟨w.heap.size + 1, 2, none⟩ dv).setCell ⟨w.heap.size + 1, 3, none⟩ vv = W1 at *
  have m2 : Mod [w.heap.size + 1 + 1] W1 ((W1.setCell ⟨w.heap.size + 1 + 1, 0, none⟩ v').setCell ⟨w.heap.size + 1 + 1, 1, none⟩ (.bool bad')) := ((Mod.refl _ _).setCell (by simp) _).setCell (by simp) _
  exact ⟨r1.mod m2 (by simp <;> omega), t1.set v' bad', d1.other m2 t1 (by decide), v1.other m2 t1 (by decide), IsRow.mod w1 m2 (fun b hb hx => by have := h.low b (ho' ▸ hb); simp at hx; omega), ho', b1.trans (m2.upto (by omega) (by simp <;> omega))⟩
/-- The cells that the walk reads. -/
theorem RSt.read {w W : World} {v0 v : Value} {ws : Words} {bad : Bool} {kd : Int} {nm : ByteArray} {dv vv : Value} {ds vs : List ByteArray} (h : RSt w W v0 v ws bad kd nm dv ds vv vs) :
    (∃ a c, v = .slice a ws.length c) ∧ (∃ a c, dv = .slice a ds.length c) ∧ (∃ a c, vv = .slice a vs.length c) := ⟨words_val h.ww, h.dl.1.val, h.vl.1.val⟩
theorem RSt.start (w : World) (v : Value) (ws : Words) (hv : IsWords w v ws) (hlow : ∀ b, v.ownBlock = some b → b < w.heap.size) :
    RSt w ((((w.alloc (.cells #[v, .bool false] 57)).alloc (.cells #[.int .i64 0, .string ⟨#[]⟩, .slice none 0 0, .slice none 0 0] 42)).alloc (.cells #[.slice none 0 0, .bool false] 57)).alloc (.cells #[.int .i64 1, .string ⟨#[]⟩, .slice none 0 0, .slice none 0 0] 42))
      v v ws false 1 ⟨#[]⟩ (.slice none 0 0) [] (.slice none 0 0) [] := by
  have h0 : TBox (w.alloc (.cells #[v, .bool false] 57)) w.heap.size v false := World.alloc_heap_new w _
  have b0 := qalloc w (.cells #[v, .bool false] 57)
  have z0 : (w.alloc (.cells #[v, .bool false] 57)).heap.size = w.heap.size + 1 := by simp
  generalize w.alloc (.cells #[v, .bool false] 57) = w1 at *
  have h1 : RBox (w1.alloc (.cells #[.int .i64 0, .string ⟨#[]⟩, .slice none 0 0, .slice none 0 0] 42)) (w.heap.size + 1) 0 ⟨#[]⟩ (.slice none 0 0) (.slice none 0 0) := by rw [← z0]; exact World.alloc_heap_new w1 _
  have b1 := qalloc w1 (.cells #[.int .i64 0, .string ⟨#[]⟩, .slice none 0 0, .slice none 0 0] 42)
  have z1 : (w1.alloc (.cells #[.int .i64 0, .string ⟨#[]⟩, .slice none 0 0, .slice none 0 0] 42)).heap.size = w.heap.size + 1 + 1 := by simp [z0]
  generalize w1.alloc (.cells #[.int .i64 0, .string ⟨#[]⟩, .slice none 0 0, .slice none 0 0] 42) = w2 at *
  have h2 : TBox (w2.alloc (.cells #[.slice none 0 0, .bool false] 57)) (w.heap.size + 1 + 1) (.slice none 0 0) false := by rw [← z1]; exact World.alloc_heap_new w2 _
  have b2 := qalloc w2 (.cells #[.slice none 0 0, .bool false] 57)
  have z2 : (w2.alloc (.cells #[.slice none 0 0, .bool false] 57)).heap.size = w.heap.size + 1 + 1 + 1 := by simp [z1]
  generalize w2.alloc (.cells #[.slice none 0 0, .bool false] 57) = w3 at *
  have h3 : RBox (w3.alloc (.cells #[.int .i64 1, .string ⟨#[]⟩, .slice none 0 0, .slice none 0 0] 42)) (w.heap.size + 1 + 1 + 1) 1 ⟨#[]⟩ (.slice none 0 0) (.slice none 0 0) := by rw [← z2]; exact World.alloc_heap_new w3 _
  have b3 := qalloc w3 (.cells #[.int .i64 1, .string ⟨#[]⟩, .slice none 0 0, .slice none 0 0] 42)
  have z3 : (w3.alloc (.cells #[.int .i64 1, .string ⟨#[]⟩, .slice none 0 0, .slice none 0 0] 42)).heap.size = w.heap.size + 1 + 1 + 1 + 1 := by simp [z2]
  generalize w3.alloc (.cells #[.int .i64 1, .string ⟨#[]⟩, .slice none 0 0, .slice none 0 0] 42) = w4 at *
  exact ⟨((h0.below b1).below b2).below b3, IsRow.below hv (qtrans (qtrans (qtrans b0 b1) b2) b3), rfl, h3, StrL.nil _ _, StrL.nil _ _, (h1.below b2).below b3, h2.below b3, qtrans (qtrans (qtrans b0 b1) b2) b3, by omega, hlow⟩
/-- Some words are left, some boxes lie as they should. -/
def RAt (w : World) (v0 : Value) (ws : Words) (bad : Bool) (kd : Int) (nm : ByteArray) (ds vs : List ByteArray) (W : World) : Prop := ∃ v dv vv, RSt w W v0 v ws bad kd nm dv ds vv vs

/-! The plain reading of a rule. -/
def kdT (ws : Words) : Int := if isT ws false b_test then 2 else 1
def n1T (ws : Words) : Words × Bool := nextT ws false (isT ws false b_lib || isT ws false b_test)
def nmT (ws : Words) : ByteArray := wordT (n1T ws).1 (n1T ws).2
def n2T (ws : Words) : Words × Bool := nextT (n1T ws).1 (n1T ws).2 (freeNameS (nmT ws))
def partT (txt : ByteArray) (vb : ByteArray → Bool) (vis : Bool) (x : Words × Bool) : List ByteArray × Words × Bool :=
  if isT x.1 x.2 txt then loopL vb vis ((nextT x.1 x.2 true).1.length + 2) true (nextT x.1 x.2 true).1 false [] else ([], x.1, x.2)
def dT (ws : Words) : List ByteArray × Words × Bool := partT bb_deps freeLabelS false (n2T ws)
def vT (ws : Words) : List ByteArray × Words × Bool := partT bb_visible viewerS true (dT ws).2
def endT (ws : Words) : Words × Bool := nextT (vT ws).2.1 (vT ws).2.2 (isT (vT ws).2.1 (vT ws).2.2 b_semi)
def RulePost (ws : Words) (v : Value) (w : World) (e : Ending) (w' : World) : Prop :=
  ∃ dv vv v', e = .returned (.tuple #[.agg #[.int .i64 (kdT ws), .string (nmT ws), dv, vv], .agg #[v', .bool (endT ws).2]]) ∧ StrL w' w.heap.size dv (dT ws).1 ∧ StrL w' w.heap.size vv (vT ws).1 ∧ IsWords w' v' (endT ws).1 ∧ v'.ownBlock = v.ownBlock ∧ Below w.heap.size w w'
theorem isT_next {ws : Words} {bad : Bool} {txt : ByteArray} (h : isT ws bad txt = true) : bad = false ∧ ∃ x r, ws = x :: r ∧ nextT ws bad true = (r, false) := by
  cases bad with
  | true => simp [isT] at h
  | false =>
    cases ws with
    | nil => simp [isT] at h
    | cons x r => exact ⟨rfl, x, r, rfl, rfl⟩
theorem loopL_small (vb : ByteArray → Bool) (vis : Bool) : ∀ (f : Nat) (first : Bool) (ws : Words) (bad : Bool) (got : List ByteArray), SmallW ws → (∀ s ∈ got, s.size ≤ 40000) →
    (∀ s ∈ (loopL vb vis f first ws bad got).1, s.size ≤ 40000) ∧ SmallW (loopL vb vis f first ws bad got).2.1 ∧ (loopL vb vis f first ws bad got).2.1.length ≤ ws.length
  | 0, _, _, _, _, hs, hg => ⟨hg, hs, Nat.le_refl _⟩
  | f + 1, first, ws, bad, got, hs, hg => by
    rw [loopL]
    split
    · obtain ⟨h1, h2, h3⟩ := loopL_small vb vis f false (nextT ws bad (vb (wordT ws bad))).1 (nextT ws bad (vb (wordT ws bad))).2 (got ++ [wordT ws bad]) (nextT_small hs _ _) (fun s h => by
        rcases List.mem_append.1 h with h | h
        · exact hg s h
        · rw [List.mem_singleton.1 h]; unfold wordT; split
          · exact Nat.zero_le _
          · exact hs.head)
      refine ⟨h1, h2, Nat.le_trans h3 ?_⟩
      unfold nextT
      split
      · exact Nat.le_refl _
      · rw [List.length_tail]; omega
    · exact ⟨hg, hs, Nat.le_refl _⟩
theorem nextT_len (ws : Words) (bad fits : Bool) : (nextT ws bad fits).1.length ≤ ws.length := by
  unfold nextT
  split
  · exact Nat.le_refl _
  · rw [List.length_tail]; omega
theorem partT_small (txt : ByteArray) (vb : ByteArray → Bool) (vis : Bool) {x : Words × Bool} (h : SmallW x.1) : (∀ s ∈ (partT txt vb vis x).1, s.size ≤ 40000) ∧ SmallW (partT txt vb vis x).2.1 ∧ (partT txt vb vis x).2.1.length ≤ x.1.length := by
  unfold partT
  split
  · obtain ⟨h1, h2, h3⟩ := loopL_small vb vis ((nextT x.1 x.2 true).1.length + 2) true (nextT x.1 x.2 true).1 false [] (nextT_small h _ _) (by simp)
    exact ⟨h1, h2, Nat.le_trans h3 (nextT_len _ _ _)⟩
  · exact ⟨by simp, h, Nat.le_refl _⟩
theorem ruleT_small {ws : Words} (h : SmallW ws) : SmallW (n1T ws).1 ∧ SmallW (n2T ws).1 ∧ SmallW (dT ws).2.1 ∧ SmallW (vT ws).2.1 ∧ SmallW (endT ws).1 ∧ (nmT ws).size ≤ 40000 ∧ (∀ s ∈ (dT ws).1, s.size ≤ 40000) ∧ (∀ s ∈ (vT ws).1, s.size ≤ 40000) ∧ (endT ws).1.length ≤ (n1T ws).1.length := by
  have h1 : SmallW (n1T ws).1 := nextT_small h _ _
  have h2 : SmallW (n2T ws).1 := nextT_small h1 _ _
  obtain ⟨d1, d2, d3⟩ := partT_small bb_deps freeLabelS false h2
  obtain ⟨v1, v2, v3⟩ := partT_small bb_visible viewerS true (x := (dT ws).2) d2
  refine ⟨h1, h2, d2, v2, nextT_small v2 _ _, ?_, d1, v1, ?_⟩
  · unfold nmT wordT
    split
    · exact Nat.zero_le _
    · exact h1.head
  · have a1 : (endT ws).1.length ≤ (vT ws).2.1.length := nextT_len _ _ _
    have a2 : (n2T ws).1.length ≤ (n1T ws).1.length := nextT_len _ _ _
    have a3 : (dT ws).2.1.length ≤ (n2T ws).1.length := d3
    have a4 : (vT ws).2.1.length ≤ (dT ws).2.1.length := v3
    omega
end Go.Proofs.YtgcmekpfhagnbaaDoor
