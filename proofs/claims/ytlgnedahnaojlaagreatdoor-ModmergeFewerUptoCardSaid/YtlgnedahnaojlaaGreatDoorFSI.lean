/- Plain: a conflict of a module gives way to a side (chapter 33). Plain: settling a conflict (chapter 33): what is valid stays valid, and fewer conflicts are left. No program in sight. Plain: a declaration that one side has removed and the other one has changed (chapter 33). No program in sight. -/
import Derived.Test.YtlgnedahnaojlaaGreatDoorFSA
import Derived.Test.YtlgnedahnaojlaaGreatDoorFNC
import Derived.Test.YtlgnedahnaojlaaGreatDoorFShS
import Derived.Test.YtlgnedahnaojlaaGreatDoorFNH
namespace Go.Proofs.YtlgnedahnaojlaaGreatDoor

def itoaB (n : Int) : ByteArray := ⟨(Lib.itoa n).toArray⟩
def settleD (d : ODecl) (s : OSpot) (side : Int) : ODecl × Bool × Int :=
  if s.kind = 1 then ({ d with names := [(d.names[side.toNat]?).getD ⟨#[]⟩] }, true, if nmS ((d.names[side.toNat]?).getD ⟨#[]⟩) then 0 else 6)
  else if s.kind = 2 then ({ d with body := setOut d.body s.pos side }, true, setErr d.body s.pos side)
  else if side = 2 then (d, false, 0)
  else if s.kind = 3 then ({ d with doubt := false }, true, 0)
  else ({ d with names := [(d.names[0]?).getD ⟨#[]⟩ ++ itoaB d.id] }, true, if nmS ((d.names[0]?).getD ⟨#[]⟩ ++ itoaB d.id) then 0 else 6)
def settleL (s : OSpot) (side : Int) : List ODecl → List ODecl
  | [] => []
  | d :: l => if d.id = s.id then (if (settleD d s side).2.2 = 0 then (if (settleD d s side).2.1 then (settleD d s side).1 :: settleL s side l else settleL s side l) else []) else d :: settleL s side l
def settleLErr (s : OSpot) (side : Int) : List ODecl → Int
 | [] => 0
 | d :: l => if d.id = s.id ∧ (settleD d s side).2.2 ≠ 0 then (settleD d s side).2.2 else settleLErr s side l
def sideBad (s : OSpot) (side : Int) : Bool := decide (side < 0) || (decide (2 < side) || (decide (side = 1) && (decide (s.kind = 3) || decide (s.kind = 4))))
def hasSpot (m : OMod) (s : OSpot) : Bool := (spotsL m.label m.decls).any fun t => t.pack.data.toList == s.pack.data.toList && (t.kind == s.kind && (t.id == s.id && t.pos == s.pos))
def settleMErr (m : OMod) (s : OSpot) (side : Int) : Int := if modErr m ≠ 0 then modErr m else if !(hasSpot m s) then 8 else if sideBad s side then 2 else settleLErr s side m.decls
def settleM (m : OMod) (s : OSpot) (side : Int) : OMod := if settleMErr m s side = 0 then ⟨m.label, m.uses, settleL s side m.decls⟩ else noMod
structure HasIt (d : ODecl) (s : OSpot) (side : Int) : Prop where
  lo : 0 ≤ side
  hi : side ≤ 2
  one : (s.kind = 3 ∨ s.kind = 4) → side ≠ 1
  kind : s.kind = 1 ∨ s.kind = 2 ∨ s.kind = 3 ∨ s.kind = 4
  three : s.kind = 1 → d.names.length = 3
  single : s.kind = 4 → d.names.length = 1
  valid : namesErr d.names = 0
theorem settleL_append (s : OSpot) (side : Int) : ∀ a b : List ODecl, settleLErr s side a = 0 → settleL s side (a ++ b) = settleL s side a ++ settleL s side b ∧ settleLErr s side (a ++ b) = settleLErr s side b
 | [], b, _ => ⟨by rw [settleL]; rfl, rfl⟩
 | d :: a, b, h => by
  rw [settleLErr] at h; split at h
  ·rename_i h1; exact absurd h h1.2
  ·rename_i h1
   obtain ⟨h2, h3⟩ := settleL_append s side a b h; rw [List.cons_append]; refine ⟨?_, by rw [settleLErr, if_neg h1]; exact h3⟩; rw [settleL, settleL, h2]
   by_cases hd : d.id = s.id
   ·have he : (settleD d s side).2.2 = 0 := Classical.byContradiction fun h => h1 ⟨hd, h⟩
    rw [if_pos hd, if_pos he, if_pos hd, if_pos he]; split <;> rfl
   ·rw [if_neg hd, if_neg hd]; rfl
end Go.Proofs.YtlgnedahnaojlaaGreatDoor

namespace Go.Proofs.YtlgnedahnaojlaaGreatDoor

theorem mem_setXL (k : Nat) : ∀ (l : List Ex) (j : Nat) (y : Ex), y ∈ setXL k l j → y ∈ l ∨ ∃ z ∈ l, ∃ i, y = setX k z i
 | [], _, y, h => by rw [setXL] at h; cases h
 | x :: l, j, y, h => by
  rw [setXL] at h; split at h
  ·rcases List.mem_cons.1 h with rfl | h
   ·exact .inr ⟨x, List.mem_cons_self .., j, rfl⟩
   ·exact .inl (List.mem_cons_of_mem _ h)
  ·rcases List.mem_cons.1 h with rfl | h
   ·exact .inl (List.mem_cons_self ..)
   ·rcases mem_setXL k l _ y h with h | ⟨z, hz, i, e⟩
    ·exact .inl (List.mem_cons_of_mem _ h)
    ·exact .inr ⟨z, List.mem_cons_of_mem _ hz, i, e⟩
theorem nodes_setXL (k : Nat) : ∀ (l : List Ex) (j : Nat), (∀ y ∈ l, ∀ i, nodesN (setX k y i) ≤ nodesN y) → nodesL (setXL k l j) ≤ nodesL l
 | [], _, _ => by rw [setXL]; exact Nat.le_refl _
 | x :: l, j, h => by
  rw [setXL]; split
  ·rw [nodesL, nodesL]; have := h x (List.mem_cons_self ..) j; omega
  ·rw [nodesL, nodesL]; have := nodes_setXL k l (j - confX x) (fun y hy => h y (List.mem_cons_of_mem _ hy)); omega
theorem depth_setXL (k : Nat) : ∀ (l : List Ex) (j : Nat), (∀ y ∈ l, ∀ i, depthN (setX k y i) ≤ depthN y) → depthL (setXL k l j) ≤ depthL l
 | [], _, _ => by rw [setXL]; exact Nat.le_refl _
 | x :: l, j, h => by
  rw [setXL]; split
  ·rw [depthL, depthL]; have := h x (List.mem_cons_self ..) j; omega
  ·rw [depthL, depthL]; have := depth_setXL k l (j - confX x) (fun y hy => h y (List.mem_cons_of_mem _ hy)); omega
theorem conf_setXL (k : Nat) : ∀ (l : List Ex) (j : Nat), (∀ y ∈ l, ∀ i, i < confX y → confX (setX k y i) < confX y) → j < confL l → confL (setXL k l j) < confL l
 | [], j, _, h => by rw [confL] at h; omega
 | x :: l, j, h, hj => by
  rw [confL] at hj; rw [setXL]; split
  ·rename_i h1; rw [confL, confL]; have := h x (List.mem_cons_self ..) j h1; omega
  ·rename_i h1; rw [confL, confL]; have := conf_setXL k l (j - confX x) (fun y hy => h y (List.mem_cons_of_mem _ hy)) (by omega); omega
theorem depthL_mem' {x : Ex} : ∀ {l : List Ex}, x ∈ l → depthN x ≤ depthL l
 | y :: l, h => by
  rw [depthL]
  rcases List.mem_cons.1 h with rfl | h
  ·omega
  ·have := depthL_mem' h; omega
theorem confL_mem' {x : Ex} : ∀ {l : List Ex}, x ∈ l → confX x ≤ confL l
 | y :: l, h => by
  rw [confL]
  rcases List.mem_cons.1 h with rfl | h
  ·omega
  ·have := confL_mem' h; omega
theorem subAt_mem {l : List Ex} {k : Nat} (h : k < l.length) : subAt l k ∈ l := by
 unfold subAt; rw [List.getElem?_eq_getElem h]; exact List.getElem_mem h
theorem nodes_setX {k : Nat} (hk : k ≤ 2) (x : Ex) : ∀ i, ValX x → nodesN (setX k x i) ≤ nodesN x := by
 refine Ex.ind (P := fun x => ∀ i, ValX x → nodesN (setX k x i) ≤ nodesN x) (fun x ih i hv => ?_) x; rw [setX_eq, nodesN_eq x]; split
 ·rename_i h
  have h3 := hv.three h.1; have := nodesL_mem (subAt_mem (l := x.subs) (k := k) (by omega)); omega
 ·have := nodes_setXL k x.subs (if x.kind = 15 then i - 1 else i) (fun y hy i => ih y hy i (hv.sub hy))
  rw [nodesN]; omega
theorem depth_setX {k : Nat} (hk : k ≤ 2) (x : Ex) : ∀ i, ValX x → depthN (setX k x i) ≤ depthN x := by
 refine Ex.ind (P := fun x => ∀ i, ValX x → depthN (setX k x i) ≤ depthN x) (fun x ih i hv => ?_) x; rw [setX_eq, depthN_eq x]; split
 ·rename_i h
  have h3 := hv.three h.1; have := depthL_mem' (subAt_mem (l := x.subs) (k := k) (by omega)); omega
 ·have := depth_setXL k x.subs (if x.kind = 15 then i - 1 else i) (fun y hy i => ih y hy i (hv.sub hy))
  rw [depthN]; omega
theorem conf_setX {k : Nat} (hk : k ≤ 2) (x : Ex) : ∀ i, ValX x → i < confX x → confX (setX k x i) < confX x := by
 refine Ex.ind (P := fun x => ∀ i, ValX x → i < confX x → confX (setX k x i) < confX x) (fun x ih i hv hi => ?_) x; rw [setX_eq]; rw [confX_eq x] at hi ⊢; split
 ·rename_i h
  have h3 := hv.three h.1; have := confL_mem' (subAt_mem (l := x.subs) (k := k) (by omega)); rw [if_pos h.1]; omega
 ·rename_i h
  rw [confX]; have key := conf_setXL k x.subs (if x.kind = 15 then i - 1 else i) (fun y hy i hi => ih y hy i (hv.sub hy) hi)
  by_cases h15 : x.kind = 15
  ·simp only [if_pos h15] at key hi ⊢
   have := key (by have : i ≠ 0 := fun e => h ⟨h15, e⟩; omega); omega
  ·simp only [if_neg h15] at key hi ⊢
   have := key (by omega); omega
theorem val_setX {k : Nat} (hk : k ≤ 2) (x : Ex) : ∀ i, ValX x → ValX (setX k x i) := by
 refine Ex.ind (P := fun x => ∀ i, ValX x → ValX (setX k x i)) (fun x ih i hv => ?_) x; rw [setX_eq]; split
 ·rename_i h
  have h3 := hv.three h.1; exact hv.sub (subAt_mem (by omega))
 ·refine ValX.intro ?_ (fun y hy => ?_)
  ·have e : nodeErr (.mk x.kind x.name x.more x.num x.den (setXL k x.subs (if x.kind = 15 then i - 1 else i))) = nodeErr x := nodeErr_head rfl rfl rfl rfl rfl (setXL_len k x.subs _)
   rw [e]; exact hv.node
  ·rcases mem_setXL k _ _ y hy with hy | ⟨z, hz, j, rfl⟩
   ·exact hv.sub hy
   ·exact ih z hz j (hv.sub hz)
theorem exprErr_setX {k : Nat} (hk : k ≤ 2) {x : Ex} (i : Nat) (h : exprErr x = 0) : exprErr (setX k x i) = 0 := by
 obtain ⟨h1, h2, h3⟩ := exprErr_iff.1 h; have a1 := nodes_setX hk x i h3; have a2 := depth_setX hk x i h3; exact exprErr_iff.2 ⟨by omega, by omega, val_setX hk x i h3⟩
theorem any_setX {k : Nat} (hk : k ≤ 2) {p : Ex → Bool} (hp : ∀ x y : Ex, x.kind = y.kind → x.name = y.name → p x = p y) (x : Ex) : ∀ i, ValX x → anyX p x = false → anyX p (setX k x i) = false := by
 refine Ex.ind (P := fun x => ∀ i, ValX x → anyX p x = false → anyX p (setX k x i) = false) (fun x ih i hv h => ?_) x; rw [setX_eq]; obtain ⟨h0, h1⟩ := anyX_false.1 h; split
 ·rename_i h
  have h3 := hv.three h.1; exact h1 _ (subAt_mem (by omega))
 ·refine anyX_false.2 ⟨(hp (.mk x.kind x.name x.more x.num x.den (setXL k x.subs (if x.kind = 15 then i - 1 else i))) x rfl rfl).trans h0, fun y hy => ?_⟩
  rcases mem_setXL k _ _ y hy with hy | ⟨z, hz, j, rfl⟩
  ·exact h1 y hy
  ·exact ih z hz j (hv.sub hz) (h1 z hz)
theorem free_setX {k : Nat} (hk : k ≤ 2) (x : Ex) : ∀ i bd, ValX x → freeN x bd = [] → freeN (setX k x i) bd = [] := by
 refine Ex.ind (P := fun x => ∀ i bd, ValX x → freeN x bd = [] → freeN (setX k x i) bd = []) (fun x ih i bd hv h => ?_) x; rw [freeN_eq] at h; rw [setX_eq]; split
 ·rename_i h15
  have h3 := hv.three h15.1; rw [if_neg (by rw [h15.1]; decide)] at h; unfold freeP at h; rw [List.drop_zero] at h
  have hb : ∀ j, boundAt (.mk x.kind x.name x.more 0 0 []) j = [] := fun j => by
   unfold boundAt; show (if x.kind = 6 then _ else _) = _
   rw [h15.1, if_neg (by decide), if_neg (fun h => absurd (show (15 : Int) = 8 from h.1) (by decide)), if_neg (fun h => absurd (show (15 : Int) = 13 from h.1) (by decide))]
  have key : ∀ (l : List Ex) (j : Nat), freeL l x.kind x.name x.more j bd = [] → ∀ y ∈ l, freeN y bd = [] := by
   intro l
   induction l with
   | nil => intro j _ y hy; cases hy
   | cons z l il =>
    intro j h y hy; rw [freeL, hb, List.append_nil, List.append_eq_nil_iff] at h
    rcases List.mem_cons.1 hy with rfl | hy
    ·exact h.1
    ·exact il _ h.2 y hy
  exact key _ _ h _ (subAt_mem (by omega))
 ·rw [freeN_eq]
  show (if x.kind = 3 then (if memS' x.name bd then [] else [x.name]) else freeP (.mk x.kind x.name x.more x.num x.den (setXL k x.subs (if x.kind = 15 then i - 1 else i))) bd 0) = []
  by_cases h3 : x.kind = 3
  ·rw [if_pos h3] at h ⊢
   exact h
  ·rw [if_neg h3] at h ⊢
   unfold freeP at h ⊢; rw [List.drop_zero] at h ⊢; show freeL (setXL k x.subs (if x.kind = 15 then i - 1 else i)) x.kind x.name x.more 0 bd = []
   have key : ∀ (l : List Ex) (n j : Nat), (∀ y ∈ l, ∀ i bd, ValX y → freeN y bd = [] → freeN (setX k y i) bd = []) → (∀ y ∈ l, ValX y) → freeL l x.kind x.name x.more n bd = [] → freeL (setXL k l j) x.kind x.name x.more n bd = [] := by
    intro l
    induction l with
    | nil => intro n j _ _ _; rw [setXL, freeL]
    | cons z l il =>
     intro n j h1 h2 h; rw [freeL, List.append_eq_nil_iff] at h; rw [setXL]; split
     ·rw [freeL, List.append_eq_nil_iff]
      exact ⟨h1 z (List.mem_cons_self ..) _ _ (h2 z (List.mem_cons_self ..)) h.1, h.2⟩
     ·rw [freeL, List.append_eq_nil_iff]
      exact ⟨h.1, il _ _ (fun y hy => h1 y (List.mem_cons_of_mem _ hy)) (fun y hy => h2 y (List.mem_cons_of_mem _ hy)) h.2⟩
   exact key _ _ _ ih (fun y hy => hv.sub hy) h

theorem names_one {s : ByteArray} (h : nmS s = true) : namesErr [s] = 0 := by
 unfold namesErr; rw [if_neg (by simp), nz_zero]; intro k hk; have : k = 0 := by simpa using hk
 subst this; unfold nmAt badNm; have e : sAt [s] 0 = s := rfl; rw [e, h]; rfl
theorem settleD_id (d : ODecl) (s : OSpot) (k : Int) : (settleD d s k).1.id = d.id := by
 unfold settleD; split
 ·rfl
 ·split
  ·rfl
  ·split
   ·rfl
   ·split <;> rfl
structure Mine (d : ODecl) (s : OSpot) : Prop where
  kind : s.kind = 1 ∨ s.kind = 2 ∨ s.kind = 3 ∨ s.kind = 4
  three : s.kind = 1 → d.names.length = 3
  pos : s.kind = 2 → 0 ≤ s.pos ∧ s.pos < (confX d.body : Int)
  doubt : s.kind = 3 → d.doubt = true
  single : s.kind = 4 → d.names.length = 1
theorem setErr_zero {x : Ex} {i s : Int} (h : exprErr x = 0) (hs : 0 ≤ s ∧ s ≤ 2) (hi : 0 ≤ i ∧ i < (confX x : Int)) : setErr x i s = 0 := by
 unfold setErr; rw [if_neg (fun e => e h), if_neg (by omega)]
theorem setOut_eq {x : Ex} {i s : Int} (h : setErr x i s = 0) : setOut x i s = setX s.toNat x i.toNat := by
 unfold setOut; rw [if_pos h]
theorem settleD_ok {label : ByteArray} {d : ODecl} {s : OSpot} {k : Int} (D : DeclOk label d) (hs : 0 ≤ k ∧ k ≤ 2) (he : (settleD d s k).2.2 = 0) (hr : (settleD d s k).2.1 = true) : DeclOk label (settleD d s k).1 := by
 have nm : ∀ t : ByteArray, (if nmS t then (0 : Int) else 6) = 0 → namesErr [t] = 0 := fun t h => by
  cases hn : nmS t with
  | true => exact names_one hn
  | false => rw [hn] at h; exact absurd h (by decide)
 unfold settleD at he hr ⊢
 by_cases h1 : s.kind = 1
 ·rw [if_pos h1] at he hr ⊢
  exact ⟨D.id1, D.id2, D.k1, D.k2, nm _ he, D.body, D.sym, D.free, D.refs⟩
 ·rw [if_neg h1] at he hr ⊢
  by_cases h2 : s.kind = 2
  ·rw [if_pos h2] at he hr ⊢
   have he : setErr d.body s.pos k = 0 := he; have hv := exprErr_val D.body; have hk : k.toNat ≤ 2 := by omega
   refine ⟨D.id1, D.id2, D.k1, D.k2, D.names, ?_, ?_, ?_, ?_⟩
   ·show exprErr (setOut d.body s.pos k) = 0
    rw [setOut_eq he]; exact exprErr_setX hk _ D.body
   ·show anyX _ (setOut d.body s.pos k) = false
    rw [setOut_eq he]; exact any_setX hk (kindP_head 4) _ _ hv D.sym
   ·show freeN (setOut d.body s.pos k) [] = []
    rw [setOut_eq he]; exact free_setX hk _ _ _ hv D.free
   ·show anyX _ (setOut d.body s.pos k) = false
    rw [setOut_eq he]; exact any_setX hk (refP_head label) _ _ hv D.refs
  ·rw [if_neg h2] at he hr ⊢
   by_cases h3 : k = 2
   ·rw [if_pos h3] at hr; cases hr
   ·rw [if_neg h3] at he hr ⊢
    by_cases h4 : s.kind = 3
    ·rw [if_pos h4]
     exact ⟨D.id1, D.id2, D.k1, D.k2, D.names, D.body, D.sym, D.free, D.refs⟩
    ·rw [if_neg h4] at he ⊢
     exact ⟨D.id1, D.id2, D.k1, D.k2, nm _ he, D.body, D.sym, D.free, D.refs⟩
theorem settleD_err {d : ODecl} {s : OSpot} {k : Int} (hb : exprErr d.body = 0) (hs : 0 ≤ k ∧ k ≤ 2) (M : Mine d s) : (settleD d s k).2.2 = 0 ∨ (settleD d s k).2.2 = 6 := by
 have nm : ∀ t : ByteArray, (if nmS t then (0 : Int) else 6) = 0 ∨ (if nmS t then (0 : Int) else 6) = 6 := fun t => by
  cases nmS t
  ·exact .inr rfl
  ·exact .inl rfl
 unfold settleD
 by_cases h1 : s.kind = 1
 ·rw [if_pos h1]; exact nm _
 ·rw [if_neg h1]
  by_cases h2 : s.kind = 2
  ·rw [if_pos h2]; exact .inl (setErr_zero hb hs (M.pos h2))
  ·rw [if_neg h2]
   by_cases h3 : k = 2
   ·rw [if_pos h3]; exact .inl rfl
   ·rw [if_neg h3]
    by_cases h4 : s.kind = 3
    ·rw [if_pos h4]; exact .inl rfl
    ·rw [if_neg h4]; exact nm _

def setF (s : OSpot) (side : Int) (d : ODecl) : Option ODecl := if d.id = s.id then (if (settleD d s side).2.1 then some (settleD d s side).1 else none) else some d
theorem settleL_map (s : OSpot) (side : Int) : ∀ l : List ODecl, settleLErr s side l = 0 → settleL s side l = l.filterMap (setF s side) ∧ ∀ d ∈ l, d.id = s.id → (settleD d s side).2.2 = 0
 | [], _ => ⟨by rw [settleL]; rfl, fun d hd => by cases hd⟩
 | d :: l, h => by
  rw [settleLErr] at h; split at h
  ·rename_i h1; exact absurd h h1.2
  ·rename_i h1
   obtain ⟨ih1, ih2⟩ := settleL_map s side l h; have h0 : d.id = s.id → (settleD d s side).2.2 = 0 := fun e => Classical.byContradiction fun h => h1 ⟨e, h⟩; refine ⟨?_, fun e he hid => ?_⟩
   ·rw [settleL, List.filterMap_cons, ih1]
    unfold setF
    by_cases hd : d.id = s.id
    ·rw [if_pos hd, if_pos hd, if_pos (h0 hd)]
     cases (settleD d s side).2.1 <;> rfl
    ·rw [if_neg hd, if_neg hd]
   ·rcases List.mem_cons.1 he with rfl | he
    ·exact h0 hid
    ·exact ih2 e he hid
theorem settleLErr_or (s : OSpot) (side : Int) : ∀ l : List ODecl, (∀ d ∈ l, d.id = s.id → (settleD d s side).2.2 = 0 ∨ (settleD d s side).2.2 = 6) → settleLErr s side l = 0 ∨ settleLErr s side l = 6
 | [], _ => .inl rfl
 | d :: l, h => by
  rw [settleLErr]; split
  ·rename_i h1
   rcases h d (List.mem_cons_self ..) h1.1 with e | e
   ·exact absurd e h1.2
   ·exact .inr e
  ·exact settleLErr_or s side l fun e he => h e (List.mem_cons_of_mem _ he)

theorem spotsD_mine {label : ByteArray} {prev : List ODecl} {d : ODecl} {s : OSpot} (h : s ∈ spotsD label prev d) : s.id = d.id ∧ s.pack = label ∧ Mine d s := by
 unfold spotsD at h; simp only [List.mem_append] at h
 rcases h with ((h | h) | h) | h
 ·split at h
  ·rename_i h3
   have e := List.mem_singleton.1 h; subst e; exact ⟨rfl, rfl, .inl rfl, fun _ => h3, fun e => absurd (show (1 : Int) = 2 from e) (by decide), fun e => absurd (show (1 : Int) = 3 from e) (by decide), fun e => absurd (show (1 : Int) = 4 from e) (by decide)⟩
  ·cases h
 ·obtain ⟨i, hi, e⟩ := List.mem_map.1 h
  subst e; have := List.mem_range.1 hi; exact ⟨rfl, rfl, .inr (.inl rfl), fun e => absurd (show (2 : Int) = 1 from e) (by decide), fun _ => ⟨by show (0 : Int) ≤ (i : Int); omega, by show (i : Int) < (confX d.body : Int); omega⟩, fun e => absurd (show (2 : Int) = 3 from e) (by decide), fun e => absurd (show (2 : Int) = 4 from e) (by decide)⟩
 ·split at h
  ·rename_i h3
   have e := List.mem_singleton.1 h; subst e; exact ⟨rfl, rfl, .inr (.inr (.inl rfl)), fun e => absurd (show (3 : Int) = 1 from e) (by decide), fun e => absurd (show (3 : Int) = 2 from e) (by decide), fun _ => h3, fun e => absurd (show (3 : Int) = 4 from e) (by decide)⟩
  ·cases h
 ·split at h
  ·rename_i h3
   have e := List.mem_singleton.1 h; subst e; unfold clashB at h3; rw [Bool.and_eq_true] at h3; exact ⟨rfl, rfl, .inr (.inr (.inr rfl)), fun e => absurd (show (4 : Int) = 1 from e) (by decide), fun e => absurd (show (4 : Int) = 2 from e) (by decide), fun e => absurd (show (4 : Int) = 3 from e) (by decide), fun _ => of_decide_eq_true h3.1⟩
  ·cases h
theorem mem_spots {label : ByteArray} {ds : List ODecl} {s : OSpot} : s ∈ spotsL label ds ↔ ∃ i d, ds[i]? = some d ∧ s ∈ spotsD label (ds.take i) d := by
 unfold spotsL spotsTo; rw [List.mem_flatMap]
 constructor
 ·rintro ⟨i, hi, h⟩
  have hi := List.mem_range.1 hi; rw [dAt_of (List.getElem?_eq_getElem hi)] at h; exact ⟨i, _, List.getElem?_eq_getElem hi, h⟩
 ·rintro ⟨i, d, hd, h⟩
  refine ⟨i, List.mem_range.2 (List.getElem?_eq_some_iff.1 hd).1, ?_⟩; rw [dAt_of hd]; exact h
theorem has_iff {m : OMod} {s : OSpot} : hasSpot m s = true ↔ s ∈ spotsL m.label m.decls := by
 unfold hasSpot; rw [List.any_eq_true]
 constructor
 ·rintro ⟨t, ht, h⟩
  simp only [Bool.and_eq_true, beq_iff_eq] at h
  obtain ⟨h1, h2, h3, h4⟩ := h
  have e : t = s := by
   cases t; cases s
   have := ba_eq h1; simp only at this h2 h3 h4
   rw [this, h2, h3, h4]
  rw [← e]; exact ht
 ·intro h
  exact ⟨s, h, by simp⟩
theorem spot_mine {m : OMod} (V : ValM m) {s : OSpot} (h : s ∈ spotsL m.label m.decls) : (∃ d ∈ m.decls, d.id = s.id) ∧ s.pack = m.label ∧ ∀ d ∈ m.decls, d.id = s.id → Mine d s := by
  obtain ⟨i, d, hd, hs⟩ := mem_spots.1 h
  obtain ⟨h1, h2, h3⟩ := spotsD_mine hs
  have hm := List.mem_of_getElem? hd
  refine ⟨⟨d, hm, h1.symm⟩, h2, fun e he hid => ?_⟩
  have e1 := findD_of V.ids hm
  have e2 := findD_of V.ids he
  rw [hid, h1, e1] at e2
  injection e2 with e2
  rw [← e2]; exact h3
theorem Mine.has {d : ODecl} {s : OSpot} (M : Mine d s) {k : Int} (hv : namesErr d.names = 0) (h0 : 0 ≤ k) (h2 : k ≤ 2) (h1 : sideBad s k = false) : HasIt d s k := by
 refine ⟨h0, h2, fun h e => ?_, M.kind, M.three, M.single, hv⟩; unfold sideBad at h1; simp only [Bool.or_eq_false_iff, decide_eq_false_iff_not, Bool.and_eq_false_iff] at h1
 rcases h1.2.2 with h3 | h3
 ·exact h3 e
 ·rcases h with h | h
  ·exact h3.1 h
  ·exact h3.2 h
theorem settle_valid {m : OMod} {s : OSpot} {k : Int} (hm : modErr m = 0) (hk : 0 ≤ k ∧ k ≤ 2) (h : settleLErr s k m.decls = 0) : modErr ⟨m.label, m.uses, settleL s k m.decls⟩ = 0 := by
  have V := valM hm
  obtain ⟨h1, h2⟩ := settleL_map s k m.decls h
  have hid : ∀ d e, setF s k d = some e → e.id = d.id := fun d e h => by
    unfold setF at h
    split at h
    · split at h
      · injection h with h; rw [← h, settleD_id]
      · cases h
    · injection h with h; rw [h]
  refine valM_mod ⟨V.label, V.uses, V.ulen, V.ulab, V.uerr, ?_, ?_, fun d hd => ?_⟩
  · show (settleL s k m.decls).length ≤ 100
    rw [h1]; exact Nat.le_trans (List.length_filterMap_le ..) V.dlen
  · show (settleL s k m.decls).Pairwise _
    rw [h1]
    refine List.Pairwise.filterMap _ (fun a b hab a' ha b' hb => ?_) V.ids
    rw [hid _ _ ha, hid _ _ hb]; exact hab
  · have hd : d ∈ settleL s k m.decls := hd
    rw [h1] at hd
    obtain ⟨e, he, hf⟩ := List.mem_filterMap.1 hd
    rw [declErr_iff]
    have D := declErr_iff.1 (V.decl e he)
    unfold setF at hf
    split at hf
    · rename_i hi
      split at hf
      · rename_i hr
        injection hf with hf
        rw [← hf]; exact settleD_ok D hk (h2 e he hi) hr
      · cases hf
    · injection hf with hf
      rw [← hf]; exact D
theorem settle_err {m : OMod} {s : OSpot} {k : Int} (hm : modErr m = 0) (hk : 0 ≤ k ∧ k ≤ 2) (hs : s ∈ spotsL m.label m.decls) (h : settleMErr m s k ≠ 0) : (settleMErr m s k = 6 ∨ settleMErr m s k = 2 ∧ k = 1) ∧ settleM m s k = noMod := by
  refine ⟨?_, by unfold settleM; rw [if_neg h]⟩
  have V := valM hm
  unfold settleMErr at h ⊢
  rw [if_neg (fun e => e hm), has_iff.2 hs] at h ⊢
  rw [if_neg (by decide)] at h ⊢
  by_cases hb : sideBad s k = true
  · rw [if_pos hb]
    refine .inr ⟨rfl, ?_⟩
    unfold sideBad at hb
    simp only [Bool.or_eq_true, Bool.and_eq_true, decide_eq_true_eq] at hb
    omega
  · rw [if_neg hb] at h ⊢
    rcases settleLErr_or s k m.decls (fun d hd hi => settleD_err (decl_ok (V.decl d hd)).2.2.2 hk ((spot_mine V hs).2.2 d hd hi)) with e | e
    · exact absurd e h
    · exact .inl e
theorem settle_ok {m : OMod} {s : OSpot} {k : Int} (h : settleMErr m s k = 0) : modErr m = 0 ∧ s ∈ spotsL m.label m.decls ∧ sideBad s k = false ∧ settleLErr s k m.decls = 0 ∧ settleM m s k = ⟨m.label, m.uses, settleL s k m.decls⟩ := by
  have h' := h
  unfold settleMErr at h
  by_cases hm : modErr m = 0
  · rw [if_neg (fun e => e hm)] at h
    cases hs : hasSpot m s with
    | false => rw [hs, if_pos (show (!false) = true from rfl)] at h; exact absurd h (by decide)
    | true =>
      rw [hs, if_neg (by decide)] at h
      cases hb : sideBad s k with
      | true => rw [hb, if_pos rfl] at h; exact absurd h (by decide)
      | false =>
        rw [hb, if_neg (by decide)] at h
        exact ⟨hm, has_iff.1 hs, rfl, h, by unfold settleM; rw [if_pos h']⟩
  · rw [if_pos hm] at h; exact absurd h hm

def spotsN (label : ByteArray) (d : ODecl) : List OSpot :=
 (if d.names.length = 3 then [⟨label, 1, d.id, 0⟩] else []) ++ (List.range (confX d.body)).map (fun k => ⟨label, 2, d.id, (k : Int)⟩) ++ (if d.doubt then [⟨label, 3, d.id, 0⟩] else [])
def cntN (l : List OSpot) (id : Int) : Nat := (l.filter fun t => !(t.kind == 4) && t.id == id).length
def restN (l : List OSpot) (id : Int) : List OSpot := l.filter fun t => !(t.kind == 4) && !(t.id == id)
theorem spotsN_id {label : ByteArray} {d : ODecl} {t : OSpot} (h : t ∈ spotsN label d) : t.id = d.id ∧ (t.kind == 4) = false := by
 unfold spotsN at h; simp only [List.mem_append] at h
 rcases h with (h | h) | h
 ·split at h
  ·have e := List.mem_singleton.1 h; subst e; exact ⟨rfl, rfl⟩
  ·cases h
 ·obtain ⟨i, hi, e⟩ := List.mem_map.1 h
  subst e; exact ⟨rfl, rfl⟩
 ·split at h
  ·have e := List.mem_singleton.1 h; subst e; exact ⟨rfl, rfl⟩
  ·cases h
theorem filter_spotsD (label : ByteArray) (prev : List ODecl) (d : ODecl) (p : Int → Bool) : (spotsD label prev d).filter (fun t => !(t.kind == 4) && p t.id) = if p d.id then spotsN label d else [] := by
 have e : spotsD label prev d = spotsN label d ++ (if clashB prev d then [⟨label, 4, d.id, 0⟩] else []) := rfl
 have e2 : (if clashB prev d then [(⟨label, 4, d.id, 0⟩ : OSpot)] else []).filter (fun t => !(t.kind == 4) && p t.id) = [] := by
  split <;> rfl
 rw [e, List.filter_append, e2, List.append_nil]
 cases hp : p d.id with
 | true =>
  rw [if_pos rfl]; refine List.filter_eq_self.2 fun t ht => ?_; obtain ⟨a, b⟩ := spotsN_id ht; rw [a, b, hp]; rfl
 | false =>
  rw [if_neg (by decide)]; refine List.filter_eq_nil_iff.2 fun t ht => ?_; obtain ⟨a, b⟩ := spotsN_id ht; rw [a, b, hp]; decide
theorem flat_range {β : Type} (f : ODecl → List β) (ds : List ODecl) : (List.range ds.length).flatMap (fun i => f (dAt ds i)) = ds.flatMap f := by
 have : (List.range ds.length).map (dAt ds) = ds := by
  refine List.ext_getElem (by simp) fun i h1 h2 => ?_; rw [List.getElem_map, List.getElem_range, dAt_of (List.getElem?_eq_getElem h2)]
 rw [← this, List.flatMap_map, this]
theorem filter_spots (label : ByteArray) (ds : List ODecl) (p : Int → Bool) : (spotsL label ds).filter (fun t => !(t.kind == 4) && p t.id) = ds.flatMap fun d => if p d.id then spotsN label d else [] := by
 unfold spotsL spotsTo; rw [List.filter_flatMap]; rw [← flat_range]; refine congrArg (fun f => List.flatMap f (List.range ds.length)) (funext fun i => ?_); rw [filter_spotsD]
theorem flat_filterMap {β : Type} (f : ODecl → Option ODecl) (g : ODecl → List β) : ∀ l : List ODecl, (l.filterMap f).flatMap g = l.flatMap fun d => match f d with | some e => g e | none => []
 | [] => rfl
 | d :: l => by
  rw [List.filterMap_cons, List.flatMap_cons]
  cases h : f d with
  | none => simp only [List.nil_append]; rw [flat_filterMap f g l]
  | some e => simp only [List.flatMap_cons]; rw [flat_filterMap f g l]
theorem flat_eq {β : Type} {f g : ODecl → List β} : ∀ {l : List ODecl}, (∀ d ∈ l, f d = g d) → l.flatMap f = l.flatMap g
 | [], _ => rfl
 | d :: l, h => by rw [List.flatMap_cons, List.flatMap_cons, h d (List.mem_cons_self ..), flat_eq fun e he => h e (List.mem_cons_of_mem _ he)]
theorem flat_le {β : Type} {f g : ODecl → List β} : ∀ {l : List ODecl}, (∀ d ∈ l, (f d).length ≤ (g d).length) → (l.flatMap f).length ≤ (l.flatMap g).length
 | [], _ => Nat.le_refl _
 | d :: l, h => by
  rw [List.flatMap_cons, List.flatMap_cons, List.length_append, List.length_append]; have h1 := h d (List.mem_cons_self ..); have h2 := flat_le (f := f) (g := g) (l := l) fun e he => h e (List.mem_cons_of_mem _ he); omega
theorem flat_lt {β : Type} {f g : ODecl → List β} : ∀ {l : List ODecl}, (∀ d ∈ l, (f d).length ≤ (g d).length) → (∃ d ∈ l, (f d).length < (g d).length) → (l.flatMap f).length < (l.flatMap g).length
 | [], _, h => by obtain ⟨d, hd, _⟩ := h; cases hd
 | d :: l, h, hx => by
  rw [List.flatMap_cons, List.flatMap_cons, List.length_append, List.length_append]; have h1 := h d (List.mem_cons_self ..); have h2 := flat_le (f := f) (g := g) (l := l) fun e he => h e (List.mem_cons_of_mem _ he); obtain ⟨e, he, hlt⟩ := hx
  rcases List.mem_cons.1 he with rfl | he
  ·omega
  ·have := flat_lt (fun e he => h e (List.mem_cons_of_mem _ he)) ⟨e, he, hlt⟩
   omega
theorem spotsN_len (label : ByteArray) (d : ODecl) : (spotsN label d).length = (if d.names.length = 3 then 1 else 0) + confX d.body + (if d.doubt then 1 else 0) := by
 unfold spotsN; rw [List.length_append, List.length_append, List.length_map, List.length_range]
 congr 1
 ·congr 1
  split <;> rfl
 ·split <;> rfl
theorem settle_fewer {m : OMod} {s : OSpot} {k : Int} (hk : 0 ≤ k ∧ k ≤ 2) (h : settleMErr m s k = 0) (h23 : s.kind = 2 ∨ s.kind = 3) :
    cntN (spotsL (settleM m s k).label (settleM m s k).decls) s.id < cntN (spotsL m.label m.decls) s.id ∧ restN (spotsL (settleM m s k).label (settleM m s k).decls) s.id = restN (spotsL m.label m.decls) s.id := by
  obtain ⟨hm, hs, hb, hl, e⟩ := settle_ok h
  have V := valM hm
  obtain ⟨hex, hpk, hmine⟩ := spot_mine V hs
  obtain ⟨e1, e2⟩ := settleL_map s k m.decls hl
  rw [e]
  show cntN (spotsL m.label (settleL s k m.decls)) s.id < _ ∧ restN (spotsL m.label (settleL s k m.decls)) s.id = _
  unfold cntN restN
  rw [filter_spots _ _ fun i => i == s.id, filter_spots _ _ fun i => i == s.id, filter_spots _ _ fun i => !(i == s.id), filter_spots _ _ fun i => !(i == s.id), e1, flat_filterMap, flat_filterMap]
  have strict : ∀ d ∈ m.decls, d.id = s.id → (match setF s k d with | some e => if (e.id == s.id) then spotsN m.label e else [] | none => []).length < (spotsN m.label d).length := by
    intro d hd hi
    have M := hmine d hd hi
    have D := declErr_iff.1 (V.decl d hd)
    unfold setF
    rw [if_pos hi]
    have h1 : ¬ s.kind = 1 := by omega
    by_cases h2 : s.kind = 2
    · have e0 : settleD d s k = ({ d with body := setOut d.body s.pos k }, true, setErr d.body s.pos k) := by
        unfold settleD
        rw [if_neg h1, if_pos h2]
      rw [e0]
      have hp := M.pos h2
      have hz := setErr_zero D.body hk hp
      have := conf_setX (k := k.toNat) (by omega) d.body s.pos.toNat (exprErr_val D.body) (by omega)
      simp only [if_true, hi, beq_self_eq_true]
      rw [spotsN_len, spotsN_len, setOut_eq hz]
      simp only
      omega
    · have h3 : s.kind = 3 := by omega
      have hdt := M.doubt h3
      by_cases hk2 : k = 2
      · have e0 : settleD d s k = (d, false, 0) := by
          unfold settleD
          rw [if_neg h1, if_neg h2, if_pos hk2]
        rw [e0]
        simp only [Bool.false_eq_true, if_false, List.length_nil]
        rw [spotsN_len, hdt, if_pos rfl]
        omega
      · have e0 : settleD d s k = ({ d with doubt := false }, true, 0) := by
          unfold settleD
          rw [if_neg h1, if_neg h2, if_neg hk2, if_pos h3]
        rw [e0]
        simp only [if_true, hi, beq_self_eq_true]
        rw [spotsN_len, spotsN_len, hdt, if_pos rfl]
        simp only [Bool.false_eq_true, if_false]
        omega
  have other : ∀ d, d.id ≠ s.id → setF s k d = some d := fun d h => by unfold setF; rw [if_neg h]
  constructor
  · refine flat_lt (fun d hd => ?_) ?_
    · by_cases hi : d.id = s.id
      · have := strict d hd hi
        rw [if_pos (beq_iff_eq.2 hi)]
        exact Nat.le_of_lt this
      · rw [other d hi]
        exact Nat.le_refl _
    · obtain ⟨d, hd, hi⟩ := hex
      refine ⟨d, hd, ?_⟩
      have := strict d hd hi
      rw [if_pos (beq_iff_eq.2 hi)]
      exact this
  · refine flat_eq fun d hd => ?_
    by_cases hi : d.id = s.id
    · have hf : (!(d.id == s.id)) = false := by rw [hi]; simp
      rw [hf, if_neg (by decide)]
      unfold setF
      rw [if_pos hi]
      cases (settleD d s k).2.1 with
      | false => rfl
      | true =>
        simp only [if_true]
        rw [settleD_id, hf]
        rfl
    · rw [other d hi]

theorem settleD_sm {d : ODecl} {s : OSpot} {k : Int} (h : SmD d) (hk : 0 ≤ k ∧ k ≤ 2) (hb : exprErr d.body = 0) (he : (settleD d s k).2.2 = 0) (hw : ∀ t, nmS t = true → t.size ≤ 40000) (hn : SmX 40000 noX) : SmD (settleD d s k).1 := by
 have nm : ∀ t : ByteArray, (if nmS t then (0 : Int) else 6) = 0 → t.size ≤ 40000 := fun t h => by
  cases hn : nmS t with
  | true => exact hw t hn
  | false => rw [hn] at h; exact absurd h (by decide)
 unfold settleD at he ⊢
 by_cases h1 : s.kind = 1
 ·rw [if_pos h1] at he ⊢
  exact ⟨fun t ht => by rw [List.mem_singleton.1 ht]; exact nm _ he, (by decide : (1 : Nat) ≤ 1000000), h.body, h.nodes⟩
 ·rw [if_neg h1] at he ⊢
  by_cases h2 : s.kind = 2
  ·rw [if_pos h2] at he ⊢
   have he : setErr d.body s.pos k = 0 := he; refine ⟨h.names, h.len, ?_, ?_⟩
   ·show SmX 40000 (setOut d.body s.pos k)
    rw [setOut_eq he]; exact setX_smX _ _ _ h.body hn
   ·show nodesN (setOut d.body s.pos k) ≤ 4000000
    rw [setOut_eq he]; have := nodes_setX (k := k.toNat) (by omega) d.body s.pos.toNat (exprErr_val hb); have := h.nodes; omega
  ·rw [if_neg h2] at he ⊢
   by_cases h3 : k = 2
   ·rw [if_pos h3]; exact h
   ·rw [if_neg h3] at he ⊢
    by_cases h4 : s.kind = 3
    ·rw [if_pos h4]; exact ⟨h.names, h.len, h.body, h.nodes⟩
    ·rw [if_neg h4] at he ⊢
     exact ⟨fun t ht => by rw [List.mem_singleton.1 ht]; exact nm _ he, (by decide : (1 : Nat) ≤ 1000000), h.body, h.nodes⟩
theorem settle_sm {m : OMod} {s : OSpot} {k : Int} (S : SmM m) (hm : modErr m = 0) (hk : 0 ≤ k ∧ k ≤ 2) (h : settleLErr s k m.decls = 0) (hw : ∀ t, nmS t = true → t.size ≤ 40000) (hn : SmX 40000 noX) : SmM ⟨m.label, m.uses, settleL s k m.decls⟩ := by
 have V := valM hm; obtain ⟨h1, h2⟩ := settleL_map s k m.decls h; refine ⟨S.label, S.uses, S.ulen, fun d hd => ?_, ?_⟩
 ·have hd : d ∈ settleL s k m.decls := hd
  rw [h1] at hd; obtain ⟨e, he, hf⟩ := List.mem_filterMap.1 hd; unfold setF at hf; split at hf
  ·rename_i hi
   split at hf
   ·injection hf with hf
    rw [← hf]; exact settleD_sm (S.decls e he) hk (decl_ok (V.decl e he)).2.2.2 (h2 e he hi) hw hn
   ·cases hf
  ·injection hf with hf
   rw [← hf]; exact S.decls e he
 ·show (settleL s k m.decls).length ≤ 1000000
  rw [h1]; exact Nat.le_trans (List.length_filterMap_le ..) S.dlen
end Go.Proofs.YtlgnedahnaojlaaGreatDoor

namespace Go.Proofs.YtlgnedahnaojlaaGreatDoor

theorem split_list {l : List ODecl} {j : Nat} {d : ODecl} (h : l[j]? = some d) : l = l.take j ++ d :: l.drop (j + 1) := by
 obtain ⟨hj, rfl⟩ := List.getElem?_eq_some_iff.1 h; rw [← List.drop_eq_getElem_cons hj, List.take_append_drop]
end Go.Proofs.YtlgnedahnaojlaaGreatDoor

