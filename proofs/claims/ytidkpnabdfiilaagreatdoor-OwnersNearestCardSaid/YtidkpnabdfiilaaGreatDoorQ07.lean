/- How the reference reads a rule, plainly. No program in sight. The reference's rule. What the reference's reading yields is what reading word by word yields. No program in sight. The reference's Parse. -/
import Derived.Test.YtidkpnabdfiilaaGreatDoorQ04
import Derived.Test.YtidkpnabdfiilaaGreatDoorQ06
import Derived.Test.YtidkpnabdfiilaaGreatDoorQ05
import Derived.Deep.DeepCutAuto
import Derived.Outline
namespace Go.Proofs.YtidkpnabdfiilaaGreatDoor

def personsW : OWords → List ByteArray × OWords
  | [] => ([], [])
  | x :: r => if personS x.1 then (x.1 :: (personsW r).1, (personsW r).2) else ([], x :: r)
def isGroup (s : ByteArray) : Bool := s.toList == [103, 114, 111, 117, 112]
def isAll (s : ByteArray) : Bool := s.toList == [97, 108, 108]
def isPre (s : ByteArray) : Bool := s.toList == [112, 114, 101, 102, 105, 120]
def isSemi (s : ByteArray) : Bool := s.toList == [59]
/-- The groups, the words that are left, and whether they fit. -/
def groupsW : Nat → OWords → List (List ByteArray) → List (List ByteArray) × OWords × Bool
  | 0, ws, acc => (acc, ws, true)
  | _ + 1, [], acc => (acc, [], true)
  | f + 1, x :: r, acc => if isGroup x.1 then (if (personsW r).1.length = 0 then (acc, (personsW r).2, false) else groupsW f (personsW r).2 (acc ++ [(personsW r).1])) else (acc, x :: r, true)
/-- What follows the prefix: the groups and a semicolon. -/
def tailW (p : ByteArray) (ws : OWords) : ORule × OWords × Bool :=
  match ws with
  | [] => (⟨p, []⟩, [], false)
  | x :: r => if isGroup x.1 then
      (if (groupsW (r.length + 1) (x :: r) []).2.2 then
        (match (groupsW (r.length + 1) (x :: r) []).2.1 with
          | [] => (⟨p, []⟩, [], false)
          | y :: r' => if isSemi y.1 then (⟨p, (groupsW (r.length + 1) (x :: r) []).1⟩, r', true) else (⟨p, []⟩, y :: r', false))
       else (⟨p, []⟩, (groupsW (r.length + 1) (x :: r) []).2.1, false))
    else (⟨p, []⟩, x :: r, false)
def ruleW (ws : OWords) : ORule × OWords × Bool :=
  match ws with
  | [] => (⟨⟨#[]⟩, []⟩, [], false)
  | x :: r => if isAll x.1 then tailW ⟨#[]⟩ r else if isPre x.1 then
      (match r with
        | [] => (⟨⟨#[]⟩, []⟩, [], false)
        | y :: r' => if preS y.1 then tailW y.1 r' else (⟨⟨#[]⟩, []⟩, y :: r', false))
    else (⟨⟨#[]⟩, []⟩, x :: r, false)

/-! By index. -/
theorem drop_at {α : Type} {l : List α} {i : Nat} {x : α} (h : l[i]? = some x) : l.drop i = x :: l.drop (i + 1) := by
  obtain ⟨hi, e⟩ := List.getElem?_eq_some_iff.1 h
  rw [List.drop_eq_getElem_cons hi, e]
theorem drop_out {α : Type} {l : List α} {i : Nat} (h : ¬ i < l.length) : l.drop i = [] := List.drop_eq_nil_of_le (by omega)
theorem personsW_len (ws : OWords) : (personsW ws).2.length ≤ ws.length := by
  induction ws with
  | nil => exact Nat.le_refl _
  | cons x r ih =>
    rw [personsW]
    split
    · simp; omega
    · exact Nat.le_refl _
theorem personsW_yes {ws : OWords} {i : Nat} {x : ByteArray × Nat} (h : ws[i]? = some x) (hp : personS x.1 = true) : personsW (ws.drop i) = (x.1 :: (personsW (ws.drop (i + 1))).1, (personsW (ws.drop (i + 1))).2) := by
  rw [drop_at h, personsW, if_pos hp]
theorem personsW_no {ws : OWords} {i : Nat} {x : ByteArray × Nat} (h : ws[i]? = some x) (hp : personS x.1 = false) : personsW (ws.drop i) = ([], ws.drop i) := by
  rw [drop_at h, personsW, if_neg (by rw [hp]; simp)]
theorem personsW_end {ws : OWords} {i : Nat} (h : ¬ i < ws.length) : personsW (ws.drop i) = ([], ws.drop i) := by
  rw [drop_out h, personsW]
/-- A round of the groups. -/
theorem groupsW_at {ws : OWords} {f i j : Nat} {x : ByteArray × Nat} {acc : List (List ByteArray)} {g : List ByteArray} (h : ws[i]? = some x) (hx : isGroup x.1 = true) (hp : personsW (ws.drop (i + 1)) = (g, ws.drop j)) :
    groupsW (f + 1) (ws.drop i) acc = if g.length = 0 then (acc, ws.drop j, false) else groupsW f (ws.drop j) (acc ++ [g]) := by
  rw [drop_at h, groupsW, if_pos hx, hp]
theorem groupsW_no {ws : OWords} {f i : Nat} {x : ByteArray × Nat} {acc : List (List ByteArray)} (h : ws[i]? = some x) (hx : isGroup x.1 = false) : groupsW f (ws.drop i) acc = (acc, ws.drop i, true) := by
  cases f with
  | zero => rfl
  | succ f => rw [drop_at h, groupsW, if_neg (by rw [hx]; simp)]
theorem groupsW_end {ws : OWords} {f i : Nat} {acc : List (List ByteArray)} (h : ¬ i < ws.length) : groupsW f (ws.drop i) acc = (acc, ws.drop i, true) := by
  rw [drop_out h]
  cases f <;> rfl
theorem drop_len {α : Type} (l : List α) {i : Nat} (h : i ≤ l.length) : l.length - (l.drop i).length = i := by rw [List.length_drop]; omega
theorem ruleW_all {ws : OWords} {i : Nat} {x : ByteArray × Nat} (h : ws[i]? = some x) (hx : isAll x.1 = true) : ruleW (ws.drop i) = tailW ⟨#[]⟩ (ws.drop (i + 1)) := by
  rw [drop_at h]; simp only [ruleW]; rw [if_pos hx]
theorem ruleW_not {ws : OWords} {i : Nat} {x : ByteArray × Nat} (h : ws[i]? = some x) (h1 : isAll x.1 = false) (h2 : isPre x.1 = false) : (ruleW (ws.drop i)).2 = (ws.drop i, false) := by
  rw [drop_at h]; simp only [ruleW]; rw [if_neg (by rw [h1]; simp), if_neg (by rw [h2]; simp)]
theorem ruleW_pre0 {ws : OWords} {i : Nat} {x : ByteArray × Nat} (h : ws[i]? = some x) (h1 : isAll x.1 = false) (h2 : isPre x.1 = true) (h3 : ¬ i + 1 < ws.length) : (ruleW (ws.drop i)).2 = (ws.drop (i + 1), false) := by
  rw [drop_at h]; simp only [ruleW]; rw [if_neg (by rw [h1]; simp), if_pos h2, drop_out h3]
theorem ruleW_preN {ws : OWords} {i : Nat} {x y : ByteArray × Nat} (h : ws[i]? = some x) (h1 : isAll x.1 = false) (h2 : isPre x.1 = true) (h3 : ws[i + 1]? = some y) (h4 : preS y.1 = false) : (ruleW (ws.drop i)).2 = (ws.drop (i + 1), false) := by
  rw [drop_at h]; simp only [ruleW]; rw [if_neg (by rw [h1]; simp), if_pos h2, drop_at h3]; simp only; rw [if_neg (by rw [h4]; simp)]
theorem ruleW_preY {ws : OWords} {i : Nat} {x y : ByteArray × Nat} (h : ws[i]? = some x) (h1 : isAll x.1 = false) (h2 : isPre x.1 = true) (h3 : ws[i + 1]? = some y) (h4 : preS y.1 = true) : ruleW (ws.drop i) = tailW y.1 (ws.drop (i + 1 + 1)) := by
  rw [drop_at h]; simp only [ruleW]; rw [if_neg (by rw [h1]; simp), if_pos h2, drop_at h3]; simp only; rw [if_pos h4]
theorem tailW_end {p : ByteArray} {ws : OWords} {i : Nat} (h : ¬ i < ws.length) : (tailW p (ws.drop i)).2 = (ws.drop i, false) := by
  rw [drop_out h]; rfl
theorem tailW_no {p : ByteArray} {ws : OWords} {i : Nat} {x : ByteArray × Nat} (h : ws[i]? = some x) (hx : isGroup x.1 = false) : (tailW p (ws.drop i)).2 = (ws.drop i, false) := by
  rw [drop_at h]; simp only [tailW]; rw [if_neg (by rw [hx]; simp)]
theorem tailW_yes {p : ByteArray} {ws : OWords} {i : Nat} {x : ByteArray × Nat} (h : ws[i]? = some x) (hx : isGroup x.1 = true) : tailW p (ws.drop i) =
    if (groupsW ((ws.drop (i + 1)).length + 1) (ws.drop i) []).2.2 then
        (match (groupsW ((ws.drop (i + 1)).length + 1) (ws.drop i) []).2.1 with
          | [] => (⟨p, []⟩, [], false)
          | y :: r' => if isSemi y.1 then (⟨p, (groupsW ((ws.drop (i + 1)).length + 1) (ws.drop i) []).1⟩, r', true) else (⟨p, []⟩, y :: r', false))
       else (⟨p, []⟩, (groupsW ((ws.drop (i + 1)).length + 1) (ws.drop i) []).2.1, false) := by
  rw [drop_at h]; simp only [tailW]; rw [if_pos hx]
end Go.Proofs.YtidkpnabdfiilaaGreatDoor

namespace Go.Proofs.YtidkpnabdfiilaaGreatDoor
open Go.RowKit

theorem infoStr : (Tryz.prog.info? 9).map (fun i => (i.zero, i.size, i.bytes)) = some (some (.string ⟨#[]⟩), 1, 16) := by kernel_rfl
theorem infoStrs : (Tryz.prog.info? 30).map (fun i => (i.zero, i.size, i.bytes)) = some (some (.slice none 0 0), 1, 24) := by kernel_rfl
theorem infoRule : (Tryz.prog.info? 75).map (fun i => (i.zero, i.size, i.bytes)) = some (some (.agg #[.string ⟨#[]⟩, .slice none 0 0]), 2, 40) := by kernel_rfl
structure SmallW (ws : OWords) : Prop where
  len : ws.length ≤ 40000
  each : ∀ x ∈ ws, x.1.size ≤ 40000 ∧ x.2 ≤ 40000
def RulePost (ws : OWords) (i : Nat) (X : List Nat) (w : World) (e : Ending) (w' : World) : Prop :=
  ∃ pv gv, (∃ ga gn gc, gv = .slice ga gn gc) ∧ e = .returned (.tuple #[.agg #[.string pv, gv], .int .i64 (ws.length - (ruleW (ws.drop i)).2.1.length : Nat), .bool (ruleW (ws.drop i)).2.2]) ∧
    ((ruleW (ws.drop i)).2.2 = true → pv = (ruleW (ws.drop i)).1.pre ∧ Reads w' X (groupsT (ruleW (ws.drop i)).1.groups) gv) ∧ Below w.heap.size w w'
/-- What the walk keeps: the result's box, the rule's box, the groups so far. -/
structure RR (w : World) (X : List Nat) (p : ByteArray) (gv : Value) (acc : List (List ByteArray)) (W : World) : Prop where
  b0 : CBox W w.heap.size 75 #[.string ⟨#[]⟩, .slice none 0 0]
  b1 : CBox W (w.heap.size + 1) 75 #[.string p, gv]
  own : OwnT W (w.heap.size :: (w.heap.size + 1) :: X) (w.heap.size + 2) 30 1 (fun g => [strsT g]) gv acc
  bel : Below w.heap.size w W
theorem RR.below {w W W' : World} {X : List Nat} {p : ByteArray} {gv : Value} {acc : List (List ByteArray)} (h : RR w X p gv acc W) (m : Below W.heap.size W W') : RR w X p gv acc W' :=
  ⟨h.b0.below m, h.b1.below m, h.own.below m, qtrans h.bel m⟩
theorem RR.setPre {w W : World} {X : List Nat} {p : ByteArray} (h : RR w X p (.slice none 0 0) [] W) (q : ByteArray) : RR w X q (.slice none 0 0) [] (W.setCell ⟨w.heap.size + 1, 0, none⟩ (.string q)) := by
  have m : Mod [w.heap.size + 1] W (W.setCell ⟨w.heap.size + 1, 0, none⟩ (.string q)) := (Mod.refl _ _).setCell (by simp) _
  exact ⟨h.b0.mod m (by simp), h.b1.set 0 (.string q), OwnT.nil _ _ _ _ _ _, h.bel.trans (m.upto h.bel.size (by simp))⟩
/-- The rule is stored as the result. -/
theorem RR.done {w W : World} {X : List Nat} {p : ByteArray} {gv : Value} {acc : List (List ByteArray)} (h : RR w X p gv acc W) (hX : ∀ k, k ∈ X → k < w.heap.size) :
    CBox ((W.setCell ⟨w.heap.size, 0, none⟩ (.string p)).setCell ⟨w.heap.size, 1, none⟩ gv) w.heap.size 75 #[.string p, gv] ∧
    Reads ((W.setCell ⟨w.heap.size, 0, none⟩ (.string p)).setCell ⟨w.heap.size, 1, none⟩ gv) X (groupsT acc) gv ∧
    Below w.heap.size w ((W.setCell ⟨w.heap.size, 0, none⟩ (.string p)).setCell ⟨w.heap.size, 1, none⟩ gv) := by
  have m : Mod [w.heap.size] W ((W.setCell ⟨w.heap.size, 0, none⟩ (.string p)).setCell ⟨w.heap.size, 1, none⟩ gv) := ((Mod.refl _ _).setCell (by simp) _).setCell (by simp) _
  refine ⟨(h.b0.set 0 _).set 1 _, ?_, h.bel.trans (m.upto h.bel.size (by simp))⟩
  have nb : ∀ b, gv.ownBlock = some b → b ∉ w.heap.size :: (w.heap.size + 1) :: X := fun b hb hm => by
    have := h.own.ge hb
    rcases List.mem_cons.1 hm with rfl | hm
    · omega
    · rcases List.mem_cons.1 hm with rfl | hm
      · omega
      · have := hX b hm; omega
  exact ((h.own.mod (m.mono (by simp)) nb).reads nb).fewer (by simp_all)
theorem rule_fail {ws : OWords} {i j : Nat} {X : List Nat} {w w' : World} (h : (ruleW (ws.drop i)).2 = (ws.drop j, false)) (hj : j ≤ ws.length) (p : ByteArray) (gv : Value) (hb : Below w.heap.size w w') (hgv : ∃ ga gn gc, gv = .slice ga gn gc := by exact ⟨_, _, _, rfl⟩) :
    RulePost ws i X w (.returned (.tuple #[.agg #[.string p, gv], .int .i64 j, .bool false])) w' := by
  refine ⟨p, gv, hgv, ?_, ?_, hb⟩
  · rw [h, drop_len ws hj]
  · rw [h]; simp
/-- One more group. -/
theorem RR.push {w W w3 : World} {X : List Nat} {p : ByteArray} {gv gv' sv : Value} {acc : List (List ByteArray)} {g : List ByteArray} {xs : List Value} {B : Nat} (h : RR w X p gv acc W) (hX : ∀ k, k ∈ X → k < w.heap.size)
    (hrow : W.ownsRow (w.heap.size + 2) 30 1 gv acc.length xs) (hrd : ReadsL W (gv.ownBlock.toList ++ (w.heap.size :: (w.heap.size + 1) :: X)) (acc.flatMap (fun g => [strsT g])) xs)
    (hs : W.ownsRow B 9 1 sv g.length (g.map .string)) (hB : w.heap.size + 2 ≤ B) (hgB : ∀ b, gv.ownBlock = some b → b < B)
    (ho : w3.ownsRow (w.heap.size + 2) 30 1 gv' (acc.length + 1) (xs ++ [sv])) (hg : (W.alloc (.cells #[sv] 30)).grownBy w3 gv.ownBlock) (hb : gv'.ownBlock = gv.ownBlock ∨ gv'.ownBlock = some (W.heap.size + 1)) :
    CBox w3 (w.heap.size + 1) 75 #[.string p, gv] ∧ RR w X p gv' (acc ++ [g]) (w3.setCell ⟨w.heap.size + 1, 1, none⟩ gv') := by
  have hA := qalloc W (.cells #[sv] 30)
  have h' := h.below hA
  have m3 := mod_of_grown hg
  have nb : ∀ k, k < w.heap.size + 2 → k ∉ gv.ownBlock.toList := fun k hk hm => by
    have e : gv.ownBlock = some k := by simpa using hm
    have := h.own.ge e
    omega
  have b1 : CBox w3 (w.heap.size + 1) 75 #[.string p, gv] := h'.b1.mod m3 (nb _ (by omega))
  have b0 : CBox w3 w.heap.size 75 _ := h'.b0.mod m3 (nb _ (by omega))
  refine ⟨b1, ?_⟩
  have hbel3 : Below w.heap.size w w3 := h'.bel.trans (m3.upto h'.bel.size (fun k hk => by
    rcases Nat.lt_or_ge k (w.heap.size + 2) with hlt | hge
    · exact absurd hk (nb k hlt)
    · omega))
  have hsv : Reads W (gv.ownBlock.toList ++ (w.heap.size :: (w.heap.size + 1) :: X)) (strsT g) sv := reads_strs.2 ⟨owns_row hs, fun _ b hb hm => by
    have hge := owns_block hs hb
    rcases List.mem_append.1 hm with hm | hm
    · have := hgB b (by simpa using hm); omega
    · rcases List.mem_cons.1 hm with rfl | hm
      · omega
      · rcases List.mem_cons.1 hm with rfl | hm
        · omega
        · have := hX b hm; omega⟩
  have own3 : OwnT w3 (w.heap.size :: (w.heap.size + 1) :: X) (w.heap.size + 2) 30 1 (fun g => [strsT g]) gv' (acc ++ [g]) :=
    OwnT.grown (hrow.alloc _) (hrd.below hA) (ReadsL.cons (hsv.below hA) (ReadsL.nil _ _)) ho hg (by rw [World.size_alloc]; exact hb)
  have m : Mod [w.heap.size + 1] w3 (w3.setCell ⟨w.heap.size + 1, 1, none⟩ gv') := (Mod.refl _ _).setCell (by simp) _
  refine ⟨b0.mod m (by simp), b1.set 1 gv', own3.mod (m.mono (by simp)) (fun b hb hm => ?_), hbel3.trans (m.upto hbel3.size (by simp))⟩
  have := own3.ge hb
  rcases List.mem_cons.1 hm with rfl | hm
  · omega
  · rcases List.mem_cons.1 hm with rfl | hm
    · omega
    · have := hX b hm; omega
theorem RR.glt {w W : World} {X : List Nat} {p : ByteArray} {gv : Value} {acc : List (List ByteArray)} (h : RR w X p gv acc W) : ∀ b, gv.ownBlock = some b → b < W.heap.size := fun _ hb => h.own.lt hb
theorem rule_ok {ws : OWords} {i j : Nat} {X : List Nat} {w w' : World} {r : ORule} (h : ruleW (ws.drop i) = (r, ws.drop j, true)) (hj : j ≤ ws.length) (gv : Value) (hr : Reads w' X (groupsT r.groups) gv) (hb : Below w.heap.size w w') :
    RulePost ws i X w (.returned (.tuple #[.agg #[.string r.pre, gv], .int .i64 j, .bool true])) w' := by
  refine ⟨r.pre, gv, by obtain ⟨a, c, e, _⟩ := groups_val hr; exact ⟨_, _, _, e⟩, ?_, ?_, hb⟩
  · rw [h, drop_len ws hj]
  · rw [h]; exact fun _ => ⟨rfl, hr⟩
set_option maxRecDepth 100000 in
set_option maxHeartbeats 2000000 in
theorem rrule_any (v : Value) (ws : OWords) (i : Nat) (w : World) (X : List Nat) (hX : ∀ k, k ∈ X → k < w.heap.size) (hv : IsWords w v ws) (hs : SmallW ws) (hi : i < ws.length) :
    Calls Tryz.prog 129 #[v, .int .i64 i] w (RulePost ws i X w) := by
  obtain ⟨a, cap, rfl, hc1, hc2⟩ := words_val hv
  have HV := Lib.hid hv
  have HS := Lib.hid hs
  have HX := Lib.hid hX
  have hlen := hs.len
  obtain ⟨x, hx⟩ : ∃ x, ws[i]? = some x := ⟨_, List.getElem?_eq_getElem hi⟩
  obtain ⟨b, o, rfl, hb, cx, -⟩ := words_elem hv hx
  have hxs : x.1.size ≤ 40000 := (hs.each x (List.mem_of_getElem? hx)).1
  have HI := Lib.hid hx
  clear hv hs hX hx
  go_enter Tryz.func129, Tryz.ntmps129
  go_upto_region 2 with (fail)
  have HR : Hid (RR w X ⟨#[]⟩ (.slice none 0 0) [] ((w.alloc (.cells #[.string ⟨#[]⟩, .slice none 0 0] 75)).alloc (.cells #[.string ⟨#[]⟩, .slice none 0 0] 75))) :=
    ⟨(CBox.new _ _ _).alloc _, by have := CBox.new (w.alloc (.cells #[.string ⟨#[]⟩, .slice none 0 0] 75)) 75 #[.string ⟨#[]⟩, .slice none 0 0]; rwa [World.size_alloc] at this, OwnT.nil _ _ _ _ _ _, qtrans (qalloc _ _) (qalloc _ _)⟩
  generalize (w.alloc (.cells #[.string ⟨#[]⟩, .slice none 0 0] 75)).alloc (.cells #[.string ⟨#[]⟩, .slice none 0 0] 75) = W0 at *
  have cx0 : W0.cell? ⟨b, o + i * 2, none⟩ = some (.string x.1) := (HR.out.bel.cell (p := ⟨b, o + i * 2, none⟩) hb).trans cx
  have hb0 : b < W0.heap.size := Nat.lt_of_lt_of_le hb HR.out.bel.size
  have f0 := HR.out.b0.frozen
  have f00 := f0 0
  have f01 := f0 1
  have f10 := HR.out.b1.frozen 0
  have c00 := HR.out.b0.cell (i := 0) rfl
  have c01 := HR.out.b0.cell (i := 1) rfl
  have c10 := HR.out.b1.cell (i := 0) rfl
  have c11 := HR.out.b1.cell (i := 1) rfl
  have l0 := HR.out.b0.lt
  have l1 := HR.out.b1.lt
  clear f0
  go_cut [23] from 10 to 23 (fun c wx => c = .bool (!(x.1.toList == [97, 108, 108]) && !(x.1.toList == [112, 114, 101, 102, 105, 120])) ∧ W0 = wx)
  case first =>
    cases hA : (x.1.toList == [97, 108, 108]) <;> cases hP : (x.1.toList == [112, 114, 101, 102, 105, 120]) <;>
    · go_wp2
      go_meet
      case rel => exact ⟨congrArg Value.bool (by rw [hA, hP]; rfl), rfl⟩
  case rest =>
  obtain ⟨rfl, rfl⟩ := hcut
  by_cases hO : (x.1.toList == [97, 108, 108]) = false ∧ (x.1.toList == [112, 114, 101, 102, 105, 120]) = false
  · obtain ⟨hA, hP⟩ := hO
    have HF := Lib.hid (ruleW_not HI.out hA hP)
    rw [hA, hP]
    go_wp2
    have HD := Lib.hid (HR.out.done HX.out)
    have e0 := HD.out.1.cell (i := 0) rfl
    have e1 := HD.out.1.cell (i := 1) rfl
    generalize (W0.setCell ⟨w.heap.size, 0, none⟩ (.string ⟨#[]⟩)).setCell ⟨w.heap.size, 1, none⟩ (.slice none 0 0) = WF at *
    refine bodyPost_ret (v := .tuple #[.agg #[.string ⟨#[]⟩, .slice none 0 0], .int .i64 i, .bool false]) (by simp [results, Tryz.results129, go_sem, e0, e1]) rfl ?_
    exact rule_fail HF.out (Nat.le_of_lt hi) _ _ HD.out.2.2
  have HO : Hid ((!(x.1.toList == [97, 108, 108]) && !(x.1.toList == [112, 114, 101, 102, 105, 120])) = false) := by
    show _ = _
    cases hA : (x.1.toList == [97, 108, 108]) <;> cases hP : (x.1.toList == [112, 114, 101, 102, 105, 120]) <;> first | rfl | exact absurd ⟨hA, hP⟩ hO
  rw [HO.out]
  clear hO
  go_upto_if 31 with (fail)
  go_cut [1] (fun iv wx => ∃ (j : Nat) (p : ByteArray), j < ws.length ∧ iv = .int .i64 j ∧ RR w X p (.slice none 0 0) [] wx ∧ ruleW (ws.drop i) = tailW p (ws.drop (j + 1)))
  case first =>
    cases hP : (x.1.toList == [112, 114, 101, 102, 105, 120]) with
    | false =>
      have hA : isAll x.1 = true := by have := HO.out; rw [hP] at this; unfold isAll; simpa using this
      go_wp2
      go_meet
      case rel => exact ⟨i, ⟨#[]⟩, hi, rfl, HR.out, ruleW_all HI.out hA⟩
    | true =>
      have hA : isAll x.1 = false := by
        unfold isAll
        rw [beq_iff_eq] at hP
        rw [hP]; rfl
      by_cases h1 : i + 1 < ws.length
      · obtain ⟨y, hy⟩ : ∃ y, ws[i + 1]? = some y := ⟨_, List.getElem?_eq_getElem h1⟩
        have he1 : (((i : Int) + 1) == (ws.length : Int)) = false := by rw [beq_eq_false_iff_ne]; omega
        obtain ⟨b', o', e', hb', cy, -⟩ := words_elem (words_below HV.out HR.out.bel) hy
        cases e'
        have hys : y.1.size ≤ 40000 := (HS.out.each y (List.mem_of_getElem? hy)).1
        cases hq : preS y.1 with
        | true =>
          have HF := Lib.hid (ruleW_preY HI.out hA hP hy hq)
          clear hy hA
          go_wp2_with (go_at_call 160; refine (rprefix_any _ _ hys).mono ?_; rintro e w1 ⟨rfl, rfl⟩)
          go_meet
          case rel => exact ⟨i + 1, y.1, by omega, by go_num, HR.out.setPre _, HF.out⟩
        | false =>
          have HF := Lib.hid (ruleW_preN HI.out hA hP hy hq)
          clear hy hA
          go_wp2_with (go_at_call 160; refine (rprefix_any _ _ hys).mono ?_; rintro e w1 ⟨rfl, rfl⟩)
          have HD := Lib.hid (HR.out.done HX.out)
          have e0 := HD.out.1.cell (i := 0) rfl
          have e1 := HD.out.1.cell (i := 1) rfl
          generalize (W0.setCell ⟨w.heap.size, 0, none⟩ (.string ⟨#[]⟩)).setCell ⟨w.heap.size, 1, none⟩ (.slice none 0 0) = WF at *
          refine bodyPost_ret (v := .tuple #[.agg #[.string ⟨#[]⟩, .slice none 0 0], .int .i64 (i + 1 : Nat), .bool false]) (by simp [results, Tryz.results129, go_sem, e0, e1]) rfl ?_
          exact rule_fail HF.out (by omega) _ _ HD.out.2.2
      · have he1 : (((i : Int) + 1) == (ws.length : Int)) = true := by rw [beq_iff_eq]; omega
        have HF := Lib.hid (ruleW_pre0 HI.out hA hP h1)
        clear hA
        go_wp2
        have HD := Lib.hid (HR.out.done HX.out)
        have e0 := HD.out.1.cell (i := 0) rfl
        have e1 := HD.out.1.cell (i := 1) rfl
        generalize (W0.setCell ⟨w.heap.size, 0, none⟩ (.string ⟨#[]⟩)).setCell ⟨w.heap.size, 1, none⟩ (.slice none 0 0) = WF at *
        refine bodyPost_ret (v := .tuple #[.agg #[.string ⟨#[]⟩, .slice none 0 0], .int .i64 (i + 1 : Nat), .bool false]) (by simp [results, Tryz.results129, go_sem, e0, e1]) rfl ?_
        exact rule_fail HF.out (by omega) _ _ HD.out.2.2
  case rest =>
  clear HO HI HR f00 f01 f10 c00 c01 c10 c11 l0 l1 cx cx0 hb0 hxs
  clear x W0
  obtain ⟨j, p, hj, rfl, hRR, HRW⟩ := hcut
  have HR := Lib.hid hRR
  have HW := Lib.hid HRW
  clear hRR HRW
  have f00 := HR.out.b0.frozen 0
  have f01 := HR.out.b0.frozen 1
  have c00 := HR.out.b0.cell (i := 0) rfl
  have c01 := HR.out.b0.cell (i := 1) rfl
  have c10 := HR.out.b1.cell (i := 0) rfl
  have c11 := HR.out.b1.cell (i := 1) rfl
  have l0 := HR.out.b0.lt
  have l1 := HR.out.b1.lt
  by_cases hjl : j + 1 < ws.length
  · obtain ⟨x, hx⟩ : ∃ x, ws[j + 1]? = some x := ⟨_, List.getElem?_eq_getElem hjl⟩
    have he1 : (((j : Int) + 1) == (ws.length : Int)) = false := by rw [beq_eq_false_iff_ne]; omega
    obtain ⟨b', o', e', hb', cx, -⟩ := words_elem (words_below HV.out HR.out.bel) hx
    cases e'
    cases hG : (x.1.toList == [103, 114, 111, 117, 112]) with
    | false =>
      have HF := Lib.hid ((congrArg Prod.snd HW.out).trans (tailW_no hx hG))
      clear hx
      go_wp2
      have HD := Lib.hid (HR.out.done HX.out)
      have e0 := HD.out.1.cell (i := 0) rfl
      have e1 := HD.out.1.cell (i := 1) rfl
      generalize (wc.setCell ⟨w.heap.size, 0, none⟩ (.string p)).setCell ⟨w.heap.size, 1, none⟩ (.slice none 0 0) = WF at *
      refine bodyPost_ret (v := .tuple #[.agg #[.string p, .slice none 0 0], .int .i64 (j + 1 : Nat), .bool false]) (by simp [results, Tryz.results129, go_sem, e0, e1]) rfl ?_
      exact rule_fail HF.out (by omega) _ _ HD.out.2.2
    | true =>
      have HF := Lib.hid (HW.out.trans (tailW_yes hx hG))
      have hfl : (ws.drop (j + 1 + 1)).length + 1 = ws.length - (j + 1) := by rw [List.length_drop]; omega
      rw [hfl] at HF
      generalize hGG : groupsW (ws.length - (j + 1)) (ws.drop (j + 1)) [] = G at HF
      have HGG := Lib.hid hGG
      clear hx hGG hfl HW
      go_wp2
      clear f00 f01 c00 c01 c10 c11 l0 l1 cx hb' he1
      have hk1 : j + 1 ≤ ws.length := by omega
      generalize hk : j + 1 = k at *
      have hjk : ((j : Int) + 1) = (k : Int) := by omega
      rw [hjk]
      clear hj hjl hk hjk
      obtain ⟨is0, his, hzs0, hzs1, hzs2⟩ := info_parts infoStr
      obtain ⟨ig0, hig, hzg0, hzg1, hzg2⟩ := info_parts infoStrs
      go_loopw [1, 8] (fun iv _ wr => ∃ (m f : Nat) (acc : List (List ByteArray)) (gsv : Value), m ≤ ws.length ∧ iv = .int .i64 m ∧ ws.length ≤ m + f ∧ acc.length ≤ m ∧ Hid (RR w X p gsv acc wr) ∧ Hid (G = groupsW f (ws.drop m) acc)) (fun iv _ _ => ws.length - (intOf iv).toNat)
      case atStart => exact ⟨k, ws.length - k, [], _, hk1, rfl, by omega, by simp, HR, HGG.out.symm⟩
      case round =>
        clear HR HGG
        obtain ⟨m, f, acc, gsv, hm, rfl, hf, hacc, HR, HG⟩ := hrel
        generalize wr = wo at *
        obtain ⟨ga, gc, rfl, hgl1, hgl2⟩ := HR.out.own.val
        have c10 := HR.out.b1.cell (i := 0) rfl
        have c11 := HR.out.b1.cell (i := 1) rfl
        have l1 := HR.out.b1.lt
        have hR := HR.out.bel.size
        by_cases hml : m < ws.length
        · obtain ⟨y, hy⟩ : ∃ y, ws[m]? = some y := ⟨_, List.getElem?_eq_getElem hml⟩
          obtain ⟨b', o', e', hb', cy, -⟩ := words_elem (words_below HV.out HR.out.bel) hy
          cases e'
          cases hYG : (y.1.toList == [103, 114, 111, 117, 112]) with
          | true =>
            obtain ⟨f, rfl⟩ : ∃ f', f = f' + 1 := ⟨f - 1, by omega⟩
            have HGA : Hid (∀ (j : Nat) (g : List ByteArray), personsW (ws.drop (m + 1)) = (g, ws.drop j) → G = if g.length = 0 then (acc, ws.drop j, false) else groupsW f (ws.drop j) (acc ++ [g])) := fun j g hp => HG.out.trans (groupsW_at hy hYG hp)
            have hWi : w.heap.size + 2 ≤ wo.heap.size := l1
            clear hy HG c10 c11 l1
            go_wp2
            go_loopw [1, 8] (fun iv gv wr => ∃ (q : Nat) (g : List ByteArray), m + 1 ≤ q ∧ q ≤ ws.length ∧ iv = .int .i64 q ∧ g.length ≤ q ∧ wr.ownsRow wo.heap.size 9 1 gv g.length (g.map .string) ∧ Below wo.heap.size wo wr ∧ Hid (personsW (ws.drop (m + 1)) = (g ++ (personsW (ws.drop q)).1, (personsW (ws.drop q)).2))) (fun iv _ _ => ws.length - (intOf iv).toNat)
            case atStart => exact ⟨m + 1, [], Nat.le_refl _, hml, by go_num, by simp, ⟨rfl, .inr ⟨wo.heap.size, 0, #[], rfl, Nat.le_refl _, World.alloc_heap_new _ _, Nat.le_refl _, Nat.zero_le _, rfl, rfl⟩⟩, qalloc _ _, rfl⟩
            case round =>
              clear cy hb'
              obtain ⟨q, g, hq1, hq2, rfl, hgq, hgown, hbi, HP⟩ := hrel
              have HRi := Lib.hid (HR.out.below hbi)
              have hsi := hbi.size
              obtain ⟨gva, gvc, rfl⟩ := owns_val hgown
              have stop : personsW (ws.drop q) = ([], ws.drop q) → personsW (ws.drop (m + 1)) = (g, ws.drop q) := fun h => by rw [HP.out, h]; simp
              have STOP := Lib.hid stop
              clear stop
              by_cases hgo : ∃ z, ws[q]? = some z ∧ personS z.1 = true
              · obtain ⟨z, hz, hpz⟩ := hgo
                have hql : q < ws.length := (List.getElem?_eq_some_iff.1 hz).1
                obtain ⟨b', o', e', hb', cz, -⟩ := words_elem (words_below HV.out HRi.out.bel) hz
                cases e'
                have hzs : z.1.size ≤ 40000 := (HS.out.each z (List.mem_of_getElem? hz)).1
                have HP2 : Hid (personsW (ws.drop (m + 1)) = ((g ++ [z.1]) ++ (personsW (ws.drop (q + 1))).1, (personsW (ws.drop (q + 1))).2)) := by
                  show _ = _; rw [HP.out, personsW_yes hz hpz]; simp
                clear hz HP STOP
                go_wp2_with (first | (go_at_call 161; refine (rperson_any _ _ hzs).mono ?_; rintro e w1 ⟨rfl, rfl⟩; rw [hpz]) | (at_builtin; refine wpList_append_own _ rfl _ _ 30 rfl wo.heap.size 9 is0 _ 1 16 Tryz.underlying30 his hzs0 hzs1 hzs2 rfl (by decide) _ _ _ rfl (hgown.alloc _) ⟨wr.heap.size, 0, none⟩ 1 1 [.string z.1] rfl rfl (cell_one_new _ _ _) (by simp [Value.oneCell']) (by unfold maxLen; omega) (by omega) (by simp; omega) ?_))
                intro v' w3 hown3 hg3 _
                have hb3 : Below wo.heap.size wo w3 := (qtrans hbi (qalloc wr _)).grown hg3 (by simp; omega) (fun k hk => owns_block hgown hk)
                clear hg3 hgown
                go_wp2
                go_roundw
                case rel => exact ⟨q + 1, g ++ [z.1], by omega, by omega, by go_num, by simp; omega, by rw [List.map_append, List.length_append]; exact hown3, hb3, HP2⟩
                case measure => simp [intOf]; omega
              · have HGE : Hid (G = if g.length = 0 then (acc, ws.drop q, false) else groupsW f (ws.drop q) (acc ++ [g])) := by
                  refine HGA.out q g (STOP.out ?_)
                  by_cases hql : q < ws.length
                  · obtain ⟨z, hz⟩ : ∃ z, ws[q]? = some z := ⟨_, List.getElem?_eq_getElem hql⟩
                    exact personsW_no hz (by rw [Bool.eq_false_iff]; exact fun h => hgo ⟨z, hz, h⟩)
                  · exact personsW_end hql
                have tests : (¬ q < ws.length) ∨ (q < ws.length ∧ ∃ z : ByteArray × Nat, z.1.size ≤ 40000 ∧ wr.cell? ⟨b, o + q * 2, none⟩ = some (.string z.1) ∧ personS z.1 = false) := by
                  by_cases hql : q < ws.length
                  · obtain ⟨z, hz⟩ : ∃ z, ws[q]? = some z := ⟨_, List.getElem?_eq_getElem hql⟩
                    obtain ⟨b', o', e', hb', cz, -⟩ := words_elem (words_below HV.out HRi.out.bel) hz
                    cases e'
                    exact .inr ⟨hql, z, (HS.out.each z (List.mem_of_getElem? hz)).1, cz, by rw [Bool.eq_false_iff]; exact fun h => hgo ⟨z, hz, h⟩⟩
                  · exact .inl hql
                have hbi2 : b < wr.heap.size := Nat.lt_of_lt_of_le hb HRi.out.bel.size
                have f00 := HRi.out.b0.frozen 0
                have f01 := HRi.out.b0.frozen 1
                have f11 := HRi.out.b1.frozen 1
                have c00 := HRi.out.b0.cell (i := 0) rfl
                have c01 := HRi.out.b0.cell (i := 1) rfl
                have c10 := HRi.out.b1.cell (i := 0) rfl
                have c11 := HRi.out.b1.cell (i := 1) rfl
                have l0 := HRi.out.b0.lt
                have l1 := HRi.out.b1.lt
                clear hgo STOP HGA HP
                by_cases hg0 : g.length = 0
                · have hgb : ((g.length : Int) == 0) = true := by rw [hg0]; rfl
                  have HFF : Hid ((ruleW (ws.drop i)).2 = (ws.drop q, false)) := by
                    show _ = _
                    rw [HF.out, HGE.out, if_pos hg0]; rfl
                  rcases tests with hql | ⟨hql, z, hzs, cz, hpz⟩ <;>
                  · go_wp2_with (go_at_call 161; refine (rperson_any _ _ hzs).mono ?_; rintro e w1 ⟨rfl, rfl⟩; rw [hpz])
                    have HD := Lib.hid (HRi.out.done HX.out)
                    have e0 := HD.out.1.cell (i := 0) rfl
                    have e1 := HD.out.1.cell (i := 1) rfl
                    generalize (wr.setCell ⟨w.heap.size, 0, none⟩ (.string p)).setCell ⟨w.heap.size, 1, none⟩ (.slice ga acc.length gc) = WF at *
                    refine bodyPost_ret (v := .tuple #[.agg #[.string p, .slice ga acc.length gc], .int .i64 q, .bool false]) (by simp [results, Tryz.results129, go_sem, e0, e1]) rfl ?_
                    exact rule_fail HFF.out hq2 _ _ HD.out.2.2
                · have hgb : ((g.length : Int) == 0) = false := by rw [beq_eq_false_iff_ne]; omega
                  have HGN : Hid (G = groupsW f (ws.drop q) (acc ++ [g])) := by show _ = _; rw [HGE.out, if_neg hg0]
                  obtain ⟨xs, hrow, hrd⟩ := HRi.out.own
                  have HRD := Lib.hid hrd
                  have hgl := HRi.out.glt
                  have HGL : Hid (∀ b, (Value.slice ga acc.length gc).ownBlock = some b → b < wo.heap.size) := HR.out.glt
                  clear hrd hgl HGE
                  rcases tests with hql | ⟨hql, z, hzs, cz, hpz⟩ <;>
                  · go_wp2_with (first | (go_at_call 161; refine (rperson_any _ _ hzs).mono ?_; rintro e w1 ⟨rfl, rfl⟩; rw [hpz]) | (at_builtin; refine wpList_append_own_at _ rfl _ _ 23 rfl (w.heap.size + 2) 30 ig0 _ 1 24 Tryz.underlying23 hig hzg0 hzg1 hzg2 rfl (by decide) _ _ _ rfl (hrow.alloc _) ⟨wr.heap.size, 0, none⟩ 1 1 [.slice gva g.length gvc] rfl rfl (cell_one_new _ _ _) (by simp [Value.oneCell']) (by unfold maxLen; omega) (by omega) (by simp; omega) ?_))
                    intro v' w3 hown3 hg3 _ hbk3
                    obtain ⟨va', vc', rfl⟩ := owns_val hown3
                    obtain ⟨hb1, hpush⟩ := HRi.out.push HX.out hrow HRD.out hgown hWi HGL.out hown3 hg3 hbk3
                    have HPU := Lib.hid hpush
                    have g1 := hb1.cell (i := 1) rfl
                    have gf := hb1.frozen 1
                    have gl := hb1.lt
                    clear hg3 hbk3 hown3 hpush hb1
                    go_wp2
                    go_roundw
                    case rel => exact ⟨q, f, acc ++ [g], _, hq2, rfl, by omega, by simp; omega, HPU, HGN⟩
                    case measure => simp [intOf]; omega
          | false =>
            have HGE : Hid (G = (acc, ws.drop m, true)) := HG.out.trans (groupsW_no hy hYG)
            have f00 := HR.out.b0.frozen 0
            have f01 := HR.out.b0.frozen 1
            have c00 := HR.out.b0.cell (i := 0) rfl
            have c01 := HR.out.b0.cell (i := 1) rfl
            have l0 := HR.out.b0.lt
            have hme : ((m : Int) == (ws.length : Int)) = false := by rw [beq_eq_false_iff_ne]; omega
            cases hsem : (y.1.toList == [59]) with
            | true =>
              have HFF : Hid (ruleW (ws.drop i) = (⟨p, acc⟩, ws.drop (m + 1), true)) := by
                show _ = _
                rw [HF.out, HGE.out, if_pos rfl]
                simp only []
                rw [drop_at hy]
                simp only []
                rw [if_pos (show isSemi y.1 = true from hsem)]
              clear hy HG
              go_wp2
              have HD := Lib.hid (HR.out.done HX.out)
              have e0 := HD.out.1.cell (i := 0) rfl
              have e1 := HD.out.1.cell (i := 1) rfl
              generalize (wo.setCell ⟨w.heap.size, 0, none⟩ (.string p)).setCell ⟨w.heap.size, 1, none⟩ (.slice ga acc.length gc) = WF at *
              refine bodyPost_ret (v := .tuple #[.agg #[.string p, .slice ga acc.length gc], .int .i64 (m + 1 : Nat), .bool true]) (by simp [results, Tryz.results129, go_sem, e0, e1]) rfl ?_
              exact rule_ok HFF.out (by omega) _ HD.out.2.1 HD.out.2.2
            | false =>
              have HFF : Hid ((ruleW (ws.drop i)).2 = (ws.drop m, false)) := by
                show _ = _
                rw [HF.out, HGE.out, if_pos rfl]
                simp only []
                rw [drop_at hy]
                simp only []
                rw [if_neg (show ¬ isSemi y.1 = true by rw [show isSemi y.1 = false from hsem]; simp)]
              clear hy HG
              go_wp2
              have HD := Lib.hid (HR.out.done HX.out)
              have e0 := HD.out.1.cell (i := 0) rfl
              have e1 := HD.out.1.cell (i := 1) rfl
              generalize (wo.setCell ⟨w.heap.size, 0, none⟩ (.string p)).setCell ⟨w.heap.size, 1, none⟩ (.slice ga acc.length gc) = WF at *
              refine bodyPost_ret (v := .tuple #[.agg #[.string p, .slice ga acc.length gc], .int .i64 m, .bool false]) (by simp [results, Tryz.results129, go_sem, e0, e1]) rfl ?_
              exact rule_fail HFF.out (by omega) _ _ HD.out.2.2
        · have HGE : Hid (G = (acc, ws.drop m, true)) := HG.out.trans (groupsW_end hml)
          have f00 := HR.out.b0.frozen 0
          have f01 := HR.out.b0.frozen 1
          have c00 := HR.out.b0.cell (i := 0) rfl
          have c01 := HR.out.b0.cell (i := 1) rfl
          have l0 := HR.out.b0.lt
          have hme : ((m : Int) == (ws.length : Int)) = true := by rw [beq_iff_eq]; omega
          have HFF : Hid ((ruleW (ws.drop i)).2 = (ws.drop m, false)) := by
            show _ = _
            rw [HF.out, HGE.out, if_pos rfl]
            simp only []
            rw [drop_out hml]
          go_wp2
          have HD := Lib.hid (HR.out.done HX.out)
          have e0 := HD.out.1.cell (i := 0) rfl
          have e1 := HD.out.1.cell (i := 1) rfl
          generalize (wo.setCell ⟨w.heap.size, 0, none⟩ (.string p)).setCell ⟨w.heap.size, 1, none⟩ (.slice ga acc.length gc) = WF at *
          refine bodyPost_ret (v := .tuple #[.agg #[.string p, .slice ga acc.length gc], .int .i64 m, .bool false]) (by simp [results, Tryz.results129, go_sem, e0, e1]) rfl ?_
          exact rule_fail HFF.out (by omega) _ _ HD.out.2.2
  · have he1 : (((j : Int) + 1) == (ws.length : Int)) = true := by rw [beq_iff_eq]; omega
    have HF := Lib.hid ((congrArg Prod.snd HW.out).trans (tailW_end hjl))
    go_wp2
    have HD := Lib.hid (HR.out.done HX.out)
    have e0 := HD.out.1.cell (i := 0) rfl
    have e1 := HD.out.1.cell (i := 1) rfl
    generalize (wc.setCell ⟨w.heap.size, 0, none⟩ (.string p)).setCell ⟨w.heap.size, 1, none⟩ (.slice none 0 0) = WF at *
    refine bodyPost_ret (v := .tuple #[.agg #[.string p, .slice none 0 0], .int .i64 (j + 1 : Nat), .bool false]) (by simp [results, Tryz.results129, go_sem, e0, e1]) rfl ?_
    exact rule_fail HF.out (by omega) _ _ HD.out.2.2
end Go.Proofs.YtidkpnabdfiilaaGreatDoor

namespace Go.Proofs.YtidkpnabdfiilaaGreatDoor

def rparseW (s : ByteArray) : Nat → OWords → List ORule → List ORule × Int × Int
  | 0, _, acc => if ocheckErr acc = 0 then (acc, 0, 0) else ([], 0, ocheckErr acc)
  | _ + 1, [], acc => if ocheckErr acc = 0 then (acc, 0, 0) else ([], 0, ocheckErr acc)
  | f + 1, x :: r, acc => if (ruleW (x :: r)).2.2 then rparseW s f (ruleW (x :: r)).2.1 (acc ++ [(ruleW (x :: r)).1]) else
      (match (ruleW (x :: r)).2.1 with
        | [] => ([], (s.size : Int), 3)
        | y :: _ => ([], (y.2 : Int), 3))

/-! What is left is a part of the words. -/
theorem personsW_suf (ws : OWords) : ∃ k, k ≤ ws.length ∧ (personsW ws).2 = ws.drop k ∧ (personsW ws).1.length = k ∧ ∀ s ∈ (personsW ws).1, ∃ x ∈ ws, x.1 = s := by
  induction ws with
  | nil => exact ⟨0, Nat.le_refl _, rfl, rfl, by simp [personsW]⟩
  | cons x r ih =>
    rw [personsW]
    split
    · obtain ⟨k, h1, h2, h3, h4⟩ := ih
      refine ⟨k + 1, by simp; omega, by simpa using h2, by simp [h3], fun s hs => ?_⟩
      rcases List.mem_cons.1 hs with rfl | hs
      · exact ⟨x, List.mem_cons_self, rfl⟩
      · obtain ⟨y, hy, e⟩ := h4 s hs; exact ⟨y, List.mem_cons_of_mem _ hy, e⟩
    · exact ⟨0, Nat.zero_le _, rfl, rfl, by simp⟩
theorem mem_drop' {α : Type} {l : List α} {k : Nat} {x : α} (h : x ∈ l.drop k) : x ∈ l := List.mem_of_mem_drop h
theorem groupsW_suf : ∀ (f : Nat) (ws : OWords) (acc : List (List ByteArray)), ∃ k, k ≤ ws.length ∧ (groupsW f ws acc).2.1 = ws.drop k ∧ (groupsW f ws acc).1.length ≤ acc.length + k ∧
    ∀ g ∈ (groupsW f ws acc).1, g ∈ acc ∨ (g.length ≤ ws.length ∧ ∀ s ∈ g, ∃ x ∈ ws, x.1 = s)
  | 0, ws, acc => ⟨0, Nat.zero_le _, rfl, Nat.le_refl _, fun _ h => .inl h⟩
  | f + 1, [], acc => ⟨0, Nat.le_refl _, rfl, Nat.le_refl _, fun _ h => .inl h⟩
  | f + 1, x :: r, acc => by
    rw [groupsW]
    obtain ⟨k, h1, h2, h3, h4⟩ := personsW_suf r
    split
    · split
      · exact ⟨k + 1, by simp; omega, by simpa using h2, by simp only []; omega, fun _ h => .inl h⟩
      · obtain ⟨j, g1, g2, g3, g4⟩ := groupsW_suf f (personsW r).2 (acc ++ [(personsW r).1])
        rw [h2] at g1 g2
        rw [List.length_drop] at g1
        refine ⟨j + k + 1, by simp; omega, by rw [h2, g2, List.drop_drop, List.drop_succ_cons, Nat.add_comm], by simp at g3; omega, fun g hg => ?_⟩
        rcases g4 g hg with hg | ⟨hl, hm⟩
        · rcases List.mem_append.1 hg with hg | hg
          · exact .inl hg
          · have e : g = (personsW r).1 := by simpa using hg
            subst e
            refine .inr ⟨by simp; omega, fun s hs => ?_⟩
            obtain ⟨y, hy, e⟩ := h4 s hs
            exact ⟨y, List.mem_cons_of_mem _ hy, e⟩
        · refine .inr ⟨by rw [h2, List.length_drop] at hl; simp; omega, fun s hs => ?_⟩
          obtain ⟨y, hy, e⟩ := hm s hs
          rw [h2] at hy
          exact ⟨y, List.mem_cons_of_mem _ (mem_drop' hy), e⟩
    · exact ⟨0, Nat.zero_le _, rfl, by simp only []; omega, fun _ h => .inl h⟩
/-- The rule that is read is no longer than the words. -/
def SmallIn (ws : OWords) (r : ORule) : Prop := (r.pre = ⟨#[]⟩ ∨ ∃ x ∈ ws, x.1 = r.pre) ∧ r.groups.length ≤ ws.length ∧ ∀ g ∈ r.groups, g.length ≤ ws.length ∧ ∀ s ∈ g, ∃ x ∈ ws, x.1 = s
theorem tailW_suf (p : ByteArray) (ws : OWords) : ∃ k, k ≤ ws.length ∧ (tailW p ws).2.1 = ws.drop k ∧ (tailW p ws).1.pre = p ∧ (tailW p ws).1.groups.length ≤ ws.length ∧ ∀ g ∈ (tailW p ws).1.groups, g.length ≤ ws.length ∧ ∀ s ∈ g, ∃ x ∈ ws, x.1 = s := by
  cases ws with
  | nil => exact ⟨0, Nat.le_refl _, rfl, rfl, Nat.zero_le _, by simp [tailW]⟩
  | cons x r =>
    obtain ⟨k, h1, h2, h3, h4⟩ := groupsW_suf (r.length + 1) (x :: r) []
    simp only [tailW]
    split
    · split
      · split
        · rename_i hn
          rw [hn] at h2
          exact ⟨k, h1, h2, rfl, Nat.zero_le _, by simp⟩
        · rename_i y r' hn
          rw [hn] at h2
          have h5 : k < (x :: r).length := by
            rcases Nat.lt_or_ge k (x :: r).length with h | h
            · exact h
            · rw [List.drop_eq_nil_of_le h] at h2; cases h2
          split
          · refine ⟨k + 1, h5, ?_, rfl, by simp only [List.length_nil, Nat.zero_add] at h3; simp only []; omega, fun g hg => ?_⟩
            · rw [← List.drop_drop, ← h2]; rfl
            · rcases h4 g hg with h | h
              · cases h
              · exact h
          · exact ⟨k, h1, h2, rfl, Nat.zero_le _, by simp⟩
      · exact ⟨k, h1, h2, rfl, Nat.zero_le _, by simp⟩
    · exact ⟨0, Nat.zero_le _, rfl, rfl, Nat.zero_le _, by simp⟩
theorem ruleW_suf (ws : OWords) : ∃ k, k ≤ ws.length ∧ (ruleW ws).2.1 = ws.drop k ∧ ((ruleW ws).2.2 = true → 1 ≤ k) ∧ SmallIn ws (ruleW ws).1 := by
  cases ws with
  | nil => exact ⟨0, Nat.le_refl _, rfl, by simp [ruleW], .inl rfl, Nat.zero_le _, by simp [ruleW]⟩
  | cons x r =>
    simp only [ruleW]
    split
    · obtain ⟨k, h1, h2, h3, h4, h5⟩ := tailW_suf ⟨#[]⟩ r
      refine ⟨k + 1, by simp; omega, by simpa using h2, by omega, .inl h3, by simp; omega, fun g hg => ?_⟩
      obtain ⟨a, b⟩ := h5 g hg
      exact ⟨by simp; omega, fun s hs => by obtain ⟨y, hy, e⟩ := b s hs; exact ⟨y, List.mem_cons_of_mem _ hy, e⟩⟩
    · split
      · split
        · exact ⟨1, by simp, by simp, by simp, .inl rfl, Nat.zero_le _, by simp⟩
        · rename_i y r'
          split
          · obtain ⟨k, h1, h2, h3, h4, h5⟩ := tailW_suf y.1 r'
            refine ⟨k + 1 + 1, by simp; omega, by simpa using h2, by omega, .inr ⟨y, by simp, h3.symm⟩, by simp; omega, fun g hg => ?_⟩
            obtain ⟨a, b⟩ := h5 g hg
            exact ⟨by simp; omega, fun s hs => by obtain ⟨z, hz, e⟩ := b s hs; exact ⟨z, List.mem_cons_of_mem _ (List.mem_cons_of_mem _ hz), e⟩⟩
          · exact ⟨1, by simp, by simp, by simp, .inl rfl, Nat.zero_le _, by simp⟩
      · exact ⟨0, Nat.zero_le _, rfl, by simp, .inl rfl, Nat.zero_le _, by simp⟩

/-! Word by word. -/
theorem modLast_snoc {α : Type} (f : α → α) (l : List α) (x : α) : modLast f (l ++ [x]) = l ++ [f x] := by
  induction l with
  | nil => rfl
  | cons y l ih =>
    cases l with
    | nil => rfl
    | cons z l => rw [List.cons_append, List.cons_append, modLast]; rw [List.cons_append] at ih; rw [ih]; rfl
theorem beq_w {s : ByteArray} {l : List UInt8} : (s.toList == l) = true ↔ s.data.toList = l := by rw [beq_iff_eq, tl]
theorem personS_ne {s : ByteArray} (h : personS s = true) : s.data.toList ≠ wGroup := by
  intro e; unfold personS personB at h; rw [e] at h; exact absurd h (by decide)
theorem read4_person {rs : List ORule} {r : ORule} {gs : List (List ByteArray)} {g : List ByteArray} {w : ByteArray} (hr : r.groups = gs ++ [g]) (h : personS w = true) :
    readW 4 (rs ++ [r]) w = some (4, rs ++ [⟨r.pre, gs ++ [g ++ [w]]⟩]) := by
  unfold readW
  rw [if_neg (by simp), if_neg (by simp), if_neg (by simp), if_neg (by rintro ⟨_, e⟩; exact personS_ne h e), if_pos ⟨.inr rfl, h⟩]
  unfold addPerson
  rw [modLast_snoc, hr, modLast_snoc]
theorem read3_person {rs : List ORule} {r : ORule} {gs : List (List ByteArray)} {g : List ByteArray} {w : ByteArray} (hr : r.groups = gs ++ [g]) (h : personS w = true) :
    readW 3 (rs ++ [r]) w = some (4, rs ++ [⟨r.pre, gs ++ [g ++ [w]]⟩]) := by
  unfold readW
  rw [if_neg (by simp), if_neg (by simp), if_neg (by simp), if_neg (by simp), if_pos ⟨.inl rfl, h⟩]
  unfold addPerson
  rw [modLast_snoc, hr, modLast_snoc]
theorem read3_not {rs : List ORule} {w : ByteArray} (h : personS w = false) : readW 3 rs w = none := by
  unfold readW
  rw [if_neg (by simp), if_neg (by simp), if_neg (by simp), if_neg (by simp), if_neg (by rintro ⟨_, e⟩; rw [show personS w = personB w.data.toList from rfl, e] at h; cases h), if_neg (by simp)]
theorem read_persons (rs : List ORule) (p : ByteArray) (gs : List (List ByteArray)) : ∀ (ws : OWords) (g : List ByteArray),
    readAll 4 (rs ++ [⟨p, gs ++ [g]⟩]) ws = readAll 4 (rs ++ [⟨p, gs ++ [g ++ (personsW ws).1]⟩]) (personsW ws).2
  | [], g => by simp [personsW]
  | x :: r, g => by
    rw [personsW]
    split
    · rename_i h
      rw [readAll, read4_person rfl h]
      simp only
      rw [read_persons rs p gs r (g ++ [x.1])]
      simp
    · simp
theorem personsW_head (ws : OWords) : (personsW ws).2 = [] ∨ ∃ y r, (personsW ws).2 = y :: r ∧ personS y.1 = false := by
  induction ws with
  | nil => exact .inl rfl
  | cons x r ih =>
    rw [personsW]
    split
    · exact ih
    · rename_i h; exact .inr ⟨x, r, rfl, by simpa using h⟩
/-- After 'group'. -/
theorem read_group (rs : List ORule) (p : ByteArray) (gs : List (List ByteArray)) (ws : OWords) :
    ((personsW ws).1.length = 0 → (personsW ws).2 = ws) ∧ readAll 3 (rs ++ [⟨p, gs ++ [[]]⟩]) ws = if (personsW ws).1.length = 0 then (match ws with | [] => .ok (3, rs ++ [⟨p, gs ++ [[]]⟩]) | y :: _ => .error y.2) else readAll 4 (rs ++ [⟨p, gs ++ [(personsW ws).1]⟩]) (personsW ws).2 := by
  cases ws with
  | nil => simp [personsW, readAll]
  | cons x r =>
    rw [personsW]
    by_cases h : personS x.1 = true
    · rw [if_pos h, readAll, read3_person rfl h]
      simp only
      refine ⟨by simp, ?_⟩
      rw [read_persons rs p gs r ([] ++ [x.1])]
      simp
    · rw [if_neg h, readAll, read3_not (by simpa using h)]
      simp
theorem read_G {place : Nat} (hp : place = 2 ∨ place = 4) {rs : List ORule} {r : ORule} {w : ByteArray} (h : isGroup w = true) : readW place (rs ++ [r]) w = some (3, rs ++ [⟨r.pre, r.groups ++ [[]]⟩]) := by
  have h' : w.data.toList = wGroup := beq_w.1 h
  have hpre : place ≠ 0 ∧ place ≠ 1 := by omega
  unfold readW
  rw [if_neg (fun e => hpre.1 e.1), if_neg (fun e => hpre.1 e.1), if_neg (fun e => hpre.2 e.1), if_pos ⟨hp, h'⟩]
  unfold addGroup
  rw [modLast_snoc]
/-- How reading ends where the rule does not fit. -/
def Ends (rest : OWords) (x : Except Nat (Nat × List ORule)) : Prop :=
  match rest with
  | [] => ∃ p rs, p ≠ 0 ∧ x = .ok (p, rs)
  | y :: _ => x = .error y.2
theorem read4_end {rs : List ORule} {y : ByteArray × Nat} {r : OWords} (hg : isGroup y.1 = false) (hp : personS y.1 = false) :
    readAll 4 rs (y :: r) = if isSemi y.1 then readAll 0 rs r else .error y.2 := by
  rw [readAll]
  have hg' : ¬ y.1.data.toList = wGroup := fun e => by rw [show isGroup y.1 = true from beq_w.2 e] at hg; cases hg
  have hp' : ¬ personB y.1.data.toList = true := by rw [show personB y.1.data.toList = personS y.1 from rfl, hp]; simp
  unfold readW
  rw [if_neg (by simp), if_neg (by simp), if_neg (by simp), if_neg (by rintro ⟨_, e⟩; exact hg' e), if_neg (by rintro ⟨_, e⟩; exact hp' e)]
  by_cases hs : isSemi y.1 = true
  · rw [if_pos ⟨rfl, beq_w.1 hs⟩, if_pos hs]
  · rw [if_neg (by rintro ⟨_, e⟩; exact hs (beq_w.2 e)), if_neg hs]
/-- Groups, from a place where one may begin. -/
theorem read_groups (rs : List ORule) (p : ByteArray) : ∀ (f : Nat) (ws : OWords) (gs : List (List ByteArray)), ws.length ≤ f → (ws = [] ∨ ∃ y r, ws = y :: r ∧ personS y.1 = false) →
    ((groupsW f ws gs).2.2 = true → readAll 4 (rs ++ [⟨p, gs⟩]) ws = readAll 4 (rs ++ [⟨p, (groupsW f ws gs).1⟩]) (groupsW f ws gs).2.1 ∧ ((groupsW f ws gs).2.1 = [] ∨ ∃ y r, (groupsW f ws gs).2.1 = y :: r ∧ personS y.1 = false ∧ isGroup y.1 = false)) ∧
    ((groupsW f ws gs).2.2 = false → Ends (groupsW f ws gs).2.1 (readAll 4 (rs ++ [⟨p, gs⟩]) ws))
  | 0, ws, gs, hf, _ => by
    have : ws = [] := List.eq_nil_of_length_eq_zero (by omega)
    subst this
    exact ⟨fun _ => ⟨rfl, .inl rfl⟩, by simp [groupsW]⟩
  | f + 1, [], gs, _, _ => ⟨fun _ => ⟨rfl, .inl rfl⟩, by simp [groupsW]⟩
  | f + 1, x :: r, gs, hf, hh => by
    have hx : personS x.1 = false := by
      rcases hh with h | ⟨y, r', h, hp⟩
      · cases h
      · cases h; exact hp
    rw [groupsW]
    by_cases hg : isGroup x.1 = true
    · rw [if_pos hg]
      obtain ⟨h0, h1⟩ := read_group rs p gs r
      have e : readAll 4 (rs ++ [⟨p, gs⟩]) (x :: r) = readAll 3 (rs ++ [⟨p, gs ++ [[]]⟩]) r := by rw [readAll, read_G (.inr rfl) hg]
      by_cases hl : (personsW r).1.length = 0
      · rw [if_pos hl]
        refine ⟨by simp, fun _ => ?_⟩
        rw [e, h1, if_pos hl, h0 hl]
        unfold Ends
        cases r with
        | nil => exact ⟨3, _, by decide, rfl⟩
        | cons y r => rfl
      · rw [if_neg hl]
        rw [e, h1, if_neg hl]
        have hlen : (personsW r).2.length ≤ f := by have := personsW_len r; simp at hf; omega
        exact read_groups rs p f (personsW r).2 (gs ++ [(personsW r).1]) hlen (personsW_head r)
    · rw [if_neg hg]
      exact ⟨fun _ => ⟨rfl, .inr ⟨x, r, rfl, hx, by simpa using hg⟩⟩, by simp⟩
theorem read_tail (rs : List ORule) (p : ByteArray) (ws : OWords) : ((tailW p ws).2.2 = true → readAll 2 (rs ++ [⟨p, []⟩]) ws = readAll 0 (rs ++ [(tailW p ws).1]) (tailW p ws).2.1) ∧ ((tailW p ws).2.2 = false → Ends (tailW p ws).2.1 (readAll 2 (rs ++ [⟨p, []⟩]) ws)) := by
  cases ws with
  | nil => exact ⟨by simp [tailW], fun _ => ⟨2, _, by decide, rfl⟩⟩
  | cons x r =>
    by_cases hg : isGroup x.1 = true
    · obtain ⟨h0, h1⟩ := read_group rs p [] r
      have hG : groupsW (r.length + 1) (x :: r) [] = if (personsW r).1.length = 0 then ([], (personsW r).2, false) else groupsW r.length (personsW r).2 ([] ++ [(personsW r).1]) := by rw [groupsW, if_pos hg]
      have e : readAll 2 (rs ++ [⟨p, []⟩]) (x :: r) = readAll 3 (rs ++ [⟨p, [] ++ [[]]⟩]) r := by rw [readAll, read_G (.inl rfl) hg]
      simp only [tailW]
      rw [if_pos hg, hG, e, h1]
      by_cases hl : (personsW r).1.length = 0
      · rw [if_pos hl, if_pos hl]
        refine ⟨by simp, fun _ => ?_⟩
        simp only [Bool.false_eq_true, if_false]
        rw [h0 hl]
        unfold Ends
        cases r with
        | nil => exact ⟨3, _, by decide, rfl⟩
        | cons y r => rfl
      · rw [if_neg hl, if_neg hl]
        have hlen : (personsW r).2.length ≤ r.length := personsW_len r
        obtain ⟨k1, k2⟩ := read_groups rs p r.length (personsW r).2 ([] ++ [(personsW r).1]) hlen (personsW_head r)
        generalize groupsW r.length (personsW r).2 ([] ++ [(personsW r).1]) = G at *
        cases hb : G.2.2 with
        | true =>
          obtain ⟨k3, k4⟩ := k1 hb
          rw [if_pos rfl, k3]
          rcases k4 with k4 | ⟨y, r', k4, k5, k6⟩
          · rw [k4]
            exact ⟨by simp, fun _ => ⟨4, _, by decide, rfl⟩⟩
          · rw [k4]
            simp only
            rw [read4_end k6 k5]
            by_cases hs : isSemi y.1 = true
            · rw [if_pos hs, if_pos hs]; exact ⟨fun _ => rfl, by simp⟩
            · rw [if_neg hs, if_neg hs]; exact ⟨by simp, fun _ => rfl⟩
        | false =>
          rw [if_neg (by simp)]
          exact ⟨by simp, fun _ => k2 hb⟩
    · simp only [tailW]
      rw [if_neg hg]
      refine ⟨by simp, fun _ => ?_⟩
      show readAll 2 _ _ = _
      have hg' : ¬ x.1.data.toList = wGroup := fun e => hg (beq_w.2 e)
      rw [readAll]
      unfold readW
      rw [if_neg (by simp), if_neg (by simp), if_neg (by simp), if_neg (by rintro ⟨_, e⟩; exact hg' e), if_neg (by simp), if_neg (by simp)]
theorem read_rule (rs : List ORule) (ws : OWords) (hne : ws ≠ []) : ((ruleW ws).2.2 = true → readAll 0 rs ws = readAll 0 (rs ++ [(ruleW ws).1]) (ruleW ws).2.1) ∧ ((ruleW ws).2.2 = false → Ends (ruleW ws).2.1 (readAll 0 rs ws)) := by
  cases ws with
  | nil => exact absurd rfl hne
  | cons x r =>
    have hA : ∀ {b}, isAll x.1 = b → (x.1.data.toList = wAll ↔ b = true) := fun h => by rw [← h]; exact beq_w.symm
    have hP : ∀ {b}, isPre x.1 = b → (x.1.data.toList = wPrefix ↔ b = true) := fun h => by rw [← h]; exact beq_w.symm
    simp only [ruleW]
    by_cases h1 : isAll x.1 = true
    · rw [if_pos h1, readAll]
      unfold readW
      rw [if_pos ⟨rfl, (hA h1).2 rfl⟩]
      exact read_tail rs ⟨#[]⟩ r
    · rw [if_neg h1]
      have h1' : ¬ x.1.data.toList = wAll := fun e => h1 (beq_w.2 e)
      by_cases h2 : isPre x.1 = true
      · rw [if_pos h2]
        have e : readAll 0 rs (x :: r) = readAll 1 rs r := by
          rw [readAll]
          unfold readW
          rw [if_neg (by rintro ⟨_, e⟩; exact h1' e), if_pos ⟨rfl, (hP h2).2 rfl⟩]
        rw [e]
        cases r with
        | nil => exact ⟨by simp, fun _ => ⟨1, _, by decide, rfl⟩⟩
        | cons y r =>
          simp only
          by_cases h3 : preS y.1 = true
          · rw [if_pos h3, readAll]
            unfold readW
            rw [if_neg (by simp), if_neg (by simp), if_pos ⟨rfl, h3⟩]
            exact read_tail rs y.1 r
          · rw [if_neg h3]
            refine ⟨by simp, fun _ => ?_⟩
            show readAll 1 _ _ = _
            rw [readAll]
            unfold readW
            rw [if_neg (by simp), if_neg (by simp), if_neg (by rintro ⟨_, e⟩; exact h3 e), if_neg (by simp), if_neg (by simp), if_neg (by simp)]
      · rw [if_neg h2]
        refine ⟨by simp, fun _ => ?_⟩
        show readAll 0 _ _ = _
        have h2' : ¬ x.1.data.toList = wPrefix := fun e => h2 (beq_w.2 e)
        rw [readAll]
        unfold readW
        rw [if_neg (by rintro ⟨_, e⟩; exact h1' e), if_neg (by rintro ⟨_, e⟩; exact h2' e), if_neg (by simp), if_neg (by simp), if_neg (by simp), if_neg (by simp)]
def finishW (s : ByteArray) (x : Except Nat (Nat × List ORule)) : List ORule × Int × Int :=
  match x with
  | .error i => ([], i, 3)
  | .ok (p, rs) => if p = 0 then (if ocheckErr rs = 0 then (rs, 0, 0) else ([], 0, ocheckErr rs)) else ([], s.size, 3)
theorem rparseW_read (s : ByteArray) : ∀ (f : Nat) (ws : OWords) (acc : List ORule), ws.length ≤ f → rparseW s f ws acc = finishW s (readAll 0 acc ws)
  | 0, ws, acc, hf => by
    have : ws = [] := List.eq_nil_of_length_eq_zero (by omega)
    subst this
    rfl
  | f + 1, [], acc, _ => rfl
  | f + 1, x :: r, acc, hf => by
    rw [rparseW]
    obtain ⟨h1, h2⟩ := read_rule acc (x :: r) (by simp)
    obtain ⟨k, hk, hs, hk1, _⟩ := ruleW_suf (x :: r)
    cases hb : (ruleW (x :: r)).2.2 with
    | true =>
      rw [if_pos rfl, h1 hb]
      refine rparseW_read s f _ _ ?_
      rw [hs, List.length_drop]
      have := hk1 hb
      simp at hf ⊢
      omega
    | false =>
      rw [if_neg (by simp)]
      have h3 := h2 hb
      generalize (ruleW (x :: r)).2.1 = rest at *
      cases rest with
      | nil =>
        obtain ⟨p, rs, hp, e⟩ := h3
        rw [e]
        show _ = finishW s (.ok (p, rs))
        unfold finishW
        simp only
        rw [if_neg hp]
      | cons y r' =>
        rw [show readAll 0 acc (x :: r) = .error y.2 from h3]
        rfl
theorem oparse_eq (s : ByteArray) : oparse s = finishW s (readAll 0 [] (wordsOf s)) := rfl
theorem rparseW_oparse (s : ByteArray) : rparseW s (wordsOf s).length (wordsOf s) [] = oparse s := by
  rw [rparseW_read s _ _ _ (Nat.le_refl _), oparse_eq]
end Go.Proofs.YtidkpnabdfiilaaGreatDoor

namespace Go.Proofs.YtidkpnabdfiilaaGreatDoor
open Go.RowKit

def ParsePost (x : List ORule × Int × Int) (w : World) (e : Ending) (w' : World) : Prop := ∃ lv, e = .returned (.tuple #[lv, .int .i64 x.2.1, .int .i64 x.2.2]) ∧ Reads w' [] (rulesT x.1) lv ∧ Below w.heap.size w w'
theorem small_rule {ws : OWords} (hs : SmallW ws) {r : ORule} {i : Nat} (h : SmallIn (ws.drop i) r) : r.pre.size ≤ 40000 ∧ SmallG r.groups := by
  have hl := hs.len
  have hd : (ws.drop i).length ≤ 40000 := by rw [List.length_drop]; omega
  have hm : ∀ x ∈ ws.drop i, x.1.size ≤ 40000 := fun x hx => (hs.each x (List.mem_of_mem_drop hx)).1
  obtain ⟨h1, h2, h3⟩ := h
  refine ⟨?_, by omega, fun g hg => ⟨by have := (h3 g hg).1; omega, fun s hs' => ?_⟩⟩
  · rcases h1 with h1 | ⟨x, hx, e⟩
    · rw [h1]; exact Nat.zero_le _
    · rw [← e]; exact hm x hx
  · obtain ⟨x, hx, e⟩ := (h3 g hg).2 s hs'
    rw [← e]; exact hm x hx
theorem words_small (s : ByteArray) (hs : s.size ≤ 40000) : SmallW (wordsOf s) :=
  ⟨by have := wordsOf_length s; omega, fun x hx => by have := toks_small s _ _ x hx; omega⟩
theorem reads_none (w : World) (b : Nat) : Reads w [] (rulesT []) (.slice (some ⟨b, 0, none⟩) 0 0) := by
  unfold rulesT rowT
  rw [Reads]
  exact ⟨[], ⟨by simp, _, 0, rfl, Nat.le_refl _, Nat.zero_le _, fun h => absurd h (Nat.lt_irrefl _)⟩, fun h => absurd h (Nat.lt_irrefl _), by simp [ReadsL]⟩
theorem rparseW_at {s : ByteArray} {ws : OWords} {f m j : Nat} {acc : List ORule} {r : ORule} (hm : m < ws.length) (h : ruleW (ws.drop m) = (r, ws.drop j, true)) : rparseW s (f + 1) (ws.drop m) acc = rparseW s f (ws.drop j) (acc ++ [r]) := by
  obtain ⟨x, hx⟩ : ∃ x, ws[m]? = some x := ⟨_, List.getElem?_eq_getElem hm⟩
  rw [drop_at hx] at h ⊢
  rw [rparseW, h, if_pos rfl]
theorem rparseW_bad {s : ByteArray} {ws : OWords} {f m j : Nat} {acc : List ORule} {y : ByteArray × Nat} (hm : m < ws.length) (h : (ruleW (ws.drop m)).2 = (ws.drop j, false)) (hy : ws[j]? = some y) : rparseW s (f + 1) (ws.drop m) acc = ([], (y.2 : Int), 3) := by
  obtain ⟨x, hx⟩ : ∃ x, ws[m]? = some x := ⟨_, List.getElem?_eq_getElem hm⟩
  rw [drop_at hx] at h ⊢
  rw [rparseW, h, if_neg (by simp), drop_at hy]
theorem rparseW_short {s : ByteArray} {ws : OWords} {f m j : Nat} {acc : List ORule} (hm : m < ws.length) (h : (ruleW (ws.drop m)).2 = (ws.drop j, false)) (hy : ¬ j < ws.length) : rparseW s (f + 1) (ws.drop m) acc = ([], (s.size : Int), 3) := by
  obtain ⟨x, hx⟩ : ∃ x, ws[m]? = some x := ⟨_, List.getElem?_eq_getElem hm⟩
  rw [drop_at hx] at h ⊢
  rw [rparseW, h, if_neg (by simp), drop_out hy]
theorem rparseW_end {s : ByteArray} {ws : OWords} {f m : Nat} {acc : List ORule} (hm : ¬ m < ws.length) : rparseW s f (ws.drop m) acc = if ocheckErr acc = 0 then (acc, 0, 0) else ([], 0, ocheckErr acc) := by
  rw [drop_out hm]
  cases f <;> rfl
theorem cell_two' (w : World) (x y : Value) (t : TypeId) {h : Nat} (e : w.heap.size = h) : ∀ j u, [x, y][j]? = some u → (w.alloc (.cells #[x, y] t)).cell? ((⟨h, 0, none⟩ : Addr).add j) = some u := by
  rw [← e]; exact cell_two w x y t
set_option maxRecDepth 100000 in
set_option maxHeartbeats 2000000 in
theorem rParse_any (s : ByteArray) (hs : s.size ≤ 40000) (w : World) : Calls Tryz.prog 87 #[.string s] w (ParsePost (oparse s) w) := by
  have HWS := Lib.hid (words_small s hs)
  have HO := Lib.hid (rparseW_oparse s)
  obtain ⟨ir0, hir, hzr0, hzr1, hzr2⟩ := info_parts infoRule
  go_enter Tryz.func87, Tryz.ntmps87
  go_wp2_with (fail)
  refine (rwords_any s hs _).mono ?_
  rintro e W0 ⟨v, rfl, hw, -, hb0⟩
  generalize wordsOf s = ws at *
  obtain ⟨a, cap, rfl, hc1, hc2⟩ := words_val hw
  have hlen := HWS.out.len
  have HW := Lib.hid hw
  clear hw
  go_wp2_with (fail)
  go_loopw [6, 7] (fun ov iv wr => ∃ (m f : Nat) (acc : List ORule), m ≤ ws.length ∧ iv = .int .i64 m ∧ ws.length ≤ m + f ∧ acc.length ≤ m ∧ Hid (OwnT wr [] W0.heap.size 75 2 ruleT ov acc) ∧ Below W0.heap.size W0 wr ∧ Hid (∀ r ∈ acc, r.pre.size ≤ 40000 ∧ SmallG r.groups) ∧ Hid (oparse s = rparseW s f (ws.drop m) acc)) (fun _ iv _ => ws.length - (intOf iv).toNat)
  case atStart => exact ⟨0, ws.length, [], Nat.zero_le _, rfl, by omega, by simp, ⟨[], ⟨rfl, .inr ⟨W0.heap.size, 0, #[], rfl, Nat.le_refl _, World.alloc_heap_new _ _, Nat.le_refl _, Nat.zero_le _, rfl, rfl⟩⟩, by simp [ReadsL]⟩, qalloc _ _, fun r hr => by simp at hr, HO.out.symm⟩
  case round =>
    obtain ⟨m, f, acc, hm, rfl, hf, hacc, HOW, hbr, HSM, HP⟩ := hrel
    obtain ⟨oa, oc, rfl, ho1, ho2⟩ := HOW.out.val
    by_cases hml : m < ws.length
    · obtain ⟨f, rfl⟩ : ∃ f', f = f' + 1 := ⟨f - 1, by omega⟩
      have hX : ∀ k, k ∈ (Value.slice oa acc.length oc).ownBlock.toList → k < wr.heap.size := fun k hk => HOW.out.lt (by simpa using hk)
      have HC := Lib.hid (rrule_any (.slice a ws.length cap) ws m wr _ hX (words_below HW.out hbr) HWS.out hml)
      obtain ⟨k, hk1, hk2, hk3, hk4⟩ := ruleW_suf (ws.drop m)
      rw [List.length_drop] at hk1
      rw [List.drop_drop] at hk2
      have hnx : ws.length - (ruleW (ws.drop m)).2.1.length = m + k := by rw [hk2, List.length_drop]; omega
      have HSR := Lib.hid (small_rule HWS.out hk4)
      have hpost : Hid (∀ e w', RulePost ws m (Value.slice oa acc.length oc).ownBlock.toList wr e w' → ∃ pv gv, (∃ ga gn gc, gv = .slice ga gn gc) ∧ e = .returned (.tuple #[.agg #[.string pv, gv], .int .i64 (m + k : Nat), .bool (ruleW (ws.drop m)).2.2]) ∧ ((ruleW (ws.drop m)).2.2 = true → pv = (ruleW (ws.drop m)).1.pre ∧ Reads w' (Value.slice oa acc.length oc).ownBlock.toList (groupsT (ruleW (ws.drop m)).1.groups) gv) ∧ Below wr.heap.size wr w') := fun e w' h => by
        obtain ⟨pv, gv, h0, h1, h2, h3⟩ := h
        rw [hnx] at h1
        exact ⟨pv, gv, h0, h1, h2, h3⟩
      have HK2 := Lib.hid hk2
      clear hX hnx hk4 hk2
      cases hok : (ruleW (ws.drop m)).2.2 with
      | true =>
        have hk1' := hk3 hok
        have HP2 : Hid (oparse s = rparseW s f (ws.drop (m + k)) (acc ++ [(ruleW (ws.drop m)).1])) := HP.out.trans (rparseW_at hml (Prod.ext rfl (Prod.ext HK2.out hok)))
        have HOK := Lib.hid hok
        rw [hok] at hpost
        generalize ruleW (ws.drop m) = rr at *
        obtain ⟨r, rest, ok⟩ := rr
        clear hok hk3 HK2 HP
        go_wp2_with (fail)
        refine HC.out.mono ?_
        intro e w1 hp
        obtain ⟨pv, gv, -, rfl, hp2, hb1⟩ := hpost.out e w1 hp
        obtain ⟨rfl, hrd⟩ := hp2 trivial
        obtain ⟨xs, hrow, hrl⟩ := (HOW.out.below hb1)
        obtain ⟨ga, gc, rfl, -, -⟩ := groups_val hrd
        have HRD := Lib.hid hrd
        have HRL := Lib.hid hrl
        clear hp hp2 hrd hrl HC hpost HOW
        have hbz := hbr.size
        have hbz1 := hb1.size
        go_wp2_with (at_builtin; refine wpList_append_own_at _ rfl _ _ 71 rfl W0.heap.size 75 ir0 _ 2 40 Tryz.underlying71 hir hzr0 hzr1 hzr2 rfl (by decide) _ _ _ rfl ((hrow.alloc _).alloc _) ⟨w1.heap.size + 1, 0, none⟩ 1 1 [.string r.pre, .slice ga r.groups.length gc] rfl rfl (cell_two' _ _ _ _ (by simp)) (by simp [Value.oneCell']) (by unfold maxLen; omega) (by omega) (by simp; omega) ?_)
        intro v' w3 hown3 hg3 _ hbk3
        have hA := qtrans (qalloc w1 (.cells #[.string r.pre, .slice ga r.groups.length gc] 75)) (qalloc _ (.cells #[.string r.pre, .slice ga r.groups.length gc] 75))
        have own3 : OwnT w3 [] W0.heap.size 75 2 ruleT v' (acc ++ [r]) :=
          OwnT.grown ((hrow.alloc _).alloc _) (HRL.out.below hA) ((ReadsL.cons (Reads.leaf' _ _ _) (ReadsL.cons (HRD.out.fewer (by simp)) (ReadsL.nil _ _))).below hA) hown3 hg3 (by simpa using hbk3)
        have hb3 : Below W0.heap.size W0 w3 := (qtrans (qtrans hbr hb1) hA).grown hg3 (by simp; omega) (fun k hk => owns_block hrow hk)
        have HOW3 := Lib.hid own3
        obtain ⟨va', vc', rfl⟩ := owns_val hown3
        clear hg3 hbk3 hown3 own3 hA hrow
        go_wp2
        go_roundw
        case rel => exact ⟨m + k, f, acc ++ [r], by omega, by go_num, by omega, by simp; omega, HOW3, hb3, fun r' hr' => by
          rcases List.mem_append.1 hr' with h | h
          · exact HSM.out r' h
          · rw [show r' = r by simpa using h]; exact HSR.out, HP2⟩
        case measure => simp [intOf]; omega
      | false =>
        rw [hok] at hpost
        have HR2 : Hid ((ruleW (ws.drop m)).2 = (ws.drop (m + k), false)) := Prod.ext HK2.out hok
        by_cases hmk : m + k < ws.length
        · obtain ⟨y, hy⟩ : ∃ y, ws[m + k]? = some y := ⟨_, List.getElem?_eq_getElem hmk⟩
          have hyk : (((m + k : Nat) : Int) == (ws.length : Int)) = false := by rw [beq_eq_false_iff_ne]; omega
          have hyk2 : (((m : Int) + (k : Int)) == (ws.length : Int)) = false := by rw [beq_eq_false_iff_ne]; omega
          have HP2 : Hid (oparse s = ([], (y.2 : Int), 3)) := HP.out.trans (rparseW_bad hml HR2.out hy)
          have HY := Lib.hid hy
          generalize ruleW (ws.drop m) = rr at *
          clear hok hk3 HK2 HP hy
          go_wp2_with (fail)
          refine HC.out.mono ?_
          intro e w1 hp
          obtain ⟨pv, gv, ⟨ga, gn, gc, rfl⟩, rfl, -, hb1⟩ := hpost.out e w1 hp
          clear hp HC hpost
          obtain ⟨b', o', e', hb', -, cy⟩ := words_elem (words_below HW.out (qtrans hbr hb1)) HY.out
          cases e'
          have hbz := hbr.size
          have hbz1 := hb1.size
          go_wp2
          go_region
          go_wp2
          go_ret3
          rw [HP2.out]
          exact ⟨_, rfl, reads_none _ _, (qtrans hb0 (qtrans hbr (qtrans hb1 (qtrans (qalloc _ _) (qalloc _ _))))).drew⟩
        · have hyk : (((m + k : Nat) : Int) == (ws.length : Int)) = true := by rw [beq_iff_eq]; omega
          have hyk2 : (((m : Int) + (k : Int)) == (ws.length : Int)) = true := by rw [beq_iff_eq]; omega
          have HP2 : Hid (oparse s = ([], (s.size : Int), 3)) := HP.out.trans (rparseW_short hml HR2.out hmk)
          generalize ruleW (ws.drop m) = rr at *
          clear hok hk3 HK2 HP
          go_wp2_with (fail)
          refine HC.out.mono ?_
          intro e w1 hp
          obtain ⟨pv, gv, ⟨ga, gn, gc, rfl⟩, rfl, -, hb1⟩ := hpost.out e w1 hp
          clear hp HC hpost
          go_wp2
          go_ret3
          rw [HP2.out]
          exact ⟨_, rfl, reads_none _ _, qtrans hb0 (qtrans hbr (qtrans hb1 (qtrans (qalloc _ _) (qalloc _ _))))⟩
    · have HPE := Lib.hid (HP.out.trans (rparseW_end hml))
      have HRA := Lib.hid HOW.out.reads0
      have HSR : Hid (SmallR acc) := ⟨by omega, HSM.out⟩
      clear HP
      generalize hq : ocheckErr acc = q at *
      have HQ := Lib.hid hq
      clear hq
      by_cases hq0 : q = 0
      · have hqn : (q != 0) = false := by simp [hq0]
        have HP2 : Hid (oparse s = (acc, 0, 0)) := by show _ = _; rw [HPE.out, if_pos hq0]
        go_wp2_with (go_at_call 130; refine (rCheck_any _ acc _ HRA.out HSR.out).mono ?_; rintro e w2 ⟨rfl, hb2⟩; rw [HQ.out])
        go_ret3
        rw [HP2.out]
        exact ⟨_, rfl, HRA.out.below hb2, qtrans hb0 (qtrans hbr hb2)⟩
      · have hqn : (q != 0) = true := by simp [hq0]
        have HP2 : Hid (oparse s = ([], 0, q)) := by show _ = _; rw [HPE.out, if_neg hq0]
        go_wp2_with (go_at_call 130; refine (rCheck_any _ acc _ HRA.out HSR.out).mono ?_; rintro e w2 ⟨rfl, hb2⟩; rw [HQ.out])
        go_ret3
        rw [HP2.out]
        exact ⟨_, rfl, reads_none _ _, qtrans hb0 (qtrans hbr (qtrans hb2 (qalloc _ _)))⟩
end Go.Proofs.YtidkpnabdfiilaaGreatDoor
