/- strings.HasSuffix, HasPrefix; owners.rulesOf. owners.directories: the iterator over the directories of a path. -/
import Derived.Test.YtidkpnabdfiilaaGreatDoorQ14
namespace Go.Proofs.YtidkpnabdfiilaaGreatDoor
open Go.RowKit

/-! Plain. -/
def sufOf (q s : List UInt8) : Bool := decide (q.length ≤ s.length) && s.drop (s.length - q.length) == q
def preOf (q s : List UInt8) : Bool := decide (q.length ≤ s.length) && s.take q.length == q
def wOwners : List UInt8 := [79, 87, 78, 69, 82, 83]
def wSlOwners : List UInt8 := [47, 79, 87, 78, 69, 82, 83]
def isOwn (p : List UInt8) : Bool := p == wOwners || sufOf wSlOwners p
abbrev ruleMap : Type := List UInt8 → Option (List ORule)
def rulesStep (m : ruleMap) (f : OFile) : ruleMap := fun x => if isOwn f.path.data.toList && (oparse f.data).2.2 == 0 && x == f.path.data.toList then some (oparse f.data).1 else m x
def rulesM (fs : List OFile) : ruleMap := fs.foldl rulesStep (fun _ => none)
theorem rulesM_at {fs : List OFile} {k : Nat} {f : OFile} (hf : fs[k]? = some f) : rulesM (fs.take (k + 1)) = rulesStep (rulesM (fs.take k)) f := by
  rw [take_at hf, rulesM, List.foldl_append]; rfl
theorem rulesStep_skip {m : ruleMap} {f : OFile} (h : (isOwn f.path.data.toList && (oparse f.data).2.2 == 0) = false) : rulesStep m f = m := by
  funext x; unfold rulesStep; rw [h]; rfl
theorem rulesStep_put {m : ruleMap} {f : OFile} (h : (isOwn f.path.data.toList && (oparse f.data).2.2 == 0) = true) : rulesStep m f = fun x => if x = f.path.data.toList then some (oparse f.data).1 else m x := by
  funext x; unfold rulesStep; rw [h]
  by_cases e : x = f.path.data.toList
  · simp [e]
  · simp [e]
theorem HasSuffix_any (s q : ByteArray) (w : World) (hs : s.size ≤ 40000) (hq : q.size ≤ 40000) : Calls Tryz.prog 82 #[.string s, .string q] w fun e w' => e = .returned (.bool (sufOf q.data.toList s.data.toList)) ∧ w = w' := by
  by_cases h : q.size ≤ s.size
  · have hd : decide ((q.size : Int) ≤ (s.size : Int)) = true := by simp; omega
    have h0 : (0 : Int) ≤ (s.size : Int) - (q.size : Int) := by omega
    have h1 : (s.size : Int) - (q.size : Int) = ((s.size - q.size : Nat) : Int) := by omega
    have H : Hid (sufOf q.data.toList s.data.toList = ((s.extract (s.size - q.size) s.size).toList == q.toList)) := by
      show _ = _; rw [sufOf, sz, sz, tl, tl, ex_end, decide_eq_true h, Bool.true_and]
    have H1 := Lib.hid h1
    clear h1
    go_enter Tryz.func82, Tryz.ntmps82
    go_wp2
    go_ret
    exact ⟨ret_bool (by rw [H.out]), rfl⟩
  · have hd : decide ((q.size : Int) ≤ (s.size : Int)) = false := by simp; omega
    have H : Hid (sufOf q.data.toList s.data.toList = false) := by show _ = _; rw [sufOf, sz, sz, decide_eq_false h, Bool.false_and]
    go_enter Tryz.func82, Tryz.ntmps82
    go_wp2
    go_ret
    exact ⟨ret_bool (by rw [H.out]), rfl⟩
theorem HasPrefix_any (s q : ByteArray) (w : World) : Calls Tryz.prog 84 #[.string s, .string q] w fun e w' => e = .returned (.bool (preOf q.data.toList s.data.toList)) ∧ w' = w := by
  by_cases h : q.size ≤ s.size
  · have hd : decide ((q.size : Int) ≤ (s.size : Int)) = true := by simp; omega
    have H : Hid (preOf q.data.toList s.data.toList = ((s.extract 0 q.size).toList == q.toList)) := by
      show _ = _; rw [preOf, sz, sz, tl, tl, ex_take, decide_eq_true h, Bool.true_and]
    go_enter Tryz.func84, Tryz.ntmps84
    go_wp2
    go_ret
    exact ⟨ret_bool (by rw [H.out]), rfl⟩
  · have hd : decide ((q.size : Int) ≤ (s.size : Int)) = false := by simp; omega
    have H : Hid (preOf q.data.toList s.data.toList = false) := by show _ = _; rw [preOf, sz, sz, decide_eq_false h, Bool.false_and]
    go_enter Tryz.func84, Tryz.ntmps84
    go_wp2
    go_ret
    exact ⟨ret_bool (by rw [H.out]), rfl⟩
/-! The map of rules. -/
/-- Block b is a map of at most n entries whose values read as g tells, apart from the blocks of X. -/
def RulesMapX (w : World) (X : List Nat) (b n : Nat) (g : ruleMap) : Prop :=
  ∃ F, IsMapS Tryz.prog 9 w b n F ∧ ∀ x, match F x, g x with
    | none, none => True
    | some v, some rs => Reads w X (rulesT rs) v
    | _, _ => False
abbrev RulesMap (w : World) (b n : Nat) (g : ruleMap) : Prop := RulesMapX w [] b n g
theorem RulesMapX.below {w w' : World} {X : List Nat} {b n : Nat} {g : ruleMap} (h : RulesMapX w X b n g) (m : Below w.heap.size w w') : RulesMapX w' X b n g := by
  obtain ⟨F, h1, h2⟩ := h
  refine ⟨F, h1.below m, fun x => ?_⟩
  have := h2 x
  revert this
  cases F x <;> cases g x <;> simp
  exact fun h => h.below m
theorem RulesMapX.fewer {w : World} {X Y : List Nat} {b n : Nat} {g : ruleMap} (h : RulesMapX w X b n g) (hs : ∀ k, k ∈ Y → k ∈ X) : RulesMapX w Y b n g := by
  obtain ⟨F, h1, h2⟩ := h
  refine ⟨F, h1, fun x => ?_⟩
  have := h2 x
  revert this
  cases F x <;> cases g x <;> simp
  exact fun h => h.fewer hs
theorem RulesMapX.made (w : World) (X : List Nat) : RulesMapX (w.alloc (.map #[] 0)) X w.heap.size 0 (fun _ => none) := ⟨_, IsMapS.made _ _ _, fun _ => trivial⟩
theorem RulesMapX.up {w : World} {X : List Nat} {b n : Nat} {g : ruleMap} (h : RulesMapX w X b n g) : RulesMapX w X b (n + 1) g := by
  obtain ⟨F, ⟨D, h1, h2⟩, h3⟩ := h
  exact ⟨F, ⟨D, h1.mono (Nat.le_succ _), h2⟩, h3⟩
theorem IsMapS.noCells {P : Program} {k : TypeId} {w : World} {b n : Nat} {f : List UInt8 → Option Value} (h : IsMapS P k w b n f) : NoCells w (some b) := by
  obtain ⟨D, ⟨es, c, h1, h2⟩, h3⟩ := h
  intro r e
  cases e
  exact ⟨_, h1, rfl⟩
theorem RulesMapX.put {w : World} {X : List Nat} {b n : Nat} {g : ruleMap} (h : RulesMapX w X b n g) (hn : n < maxLen) {s : ByteArray} (hs : s.size ≤ 40000) {v : Value} {rs : List ORule} (hv : Reads w X (rulesT rs) v) :
    ∃ w', (Instr.mapUpdate 80 (.map (some b)) (.string s) v).run Tryz.prog w = .ok () w' ∧ RulesMapX w' X b (n + 1) (fun x => if x = s.data.toList then some rs else g x) ∧ w.grownBy w' (some b) := by
  obtain ⟨F, h1, h2⟩ := h
  obtain ⟨w', e1, e2, e3⟩ := h1.put strKeyed Tryz.underlying80 hn (key_str s hs) v
  refine ⟨w', e1, ⟨_, e2, fun x => ?_⟩, e3⟩
  by_cases hx : x = s.data.toList
  · simp only [if_pos hx]; exact hv.own e3 h1.noCells
  · simp only [if_neg hx]
    have := h2 x
    revert this
    cases F x <;> cases g x <;> simp
    exact fun h => h.own e3 h1.noCells
attribute [local go_sem] run_mkMap
set_option maxRecDepth 100000 in
set_option maxHeartbeats 2000000 in
theorem rulesOf_anyX (v : Value) (fs : List OFile) (w : World) (hv : Reads w [] (filesT fs) v) (hs : SmallF fs) :
    Calls Tryz.prog 48 #[v] w fun e w' => e = .returned (.map (some w.heap.size)) ∧ RulesMapX w' (List.range w.heap.size) w.heap.size fs.length (rulesM fs) ∧ Below w.heap.size w w' := by
  obtain ⟨a, cap, rfl, hc1, hc2⟩ := files_val hv
  have HV := Lib.hid hv
  have HS := Lib.hid hs
  have hlen := hs.len
  clear hv hs
  go_enter Tryz.func48, Tryz.ntmps48
  go_wp2
  go_loopw [12] (fun i wr => ∃ k : Nat, k ≤ fs.length ∧ i = .int .i64 k ∧ Below w.heap.size w wr ∧ Hid (RulesMapX wr (List.range w.heap.size) w.heap.size k (rulesM (fs.take k)))) (fun i _ => fs.length - (intOf i).toNat)
  case atStart => exact ⟨0, Nat.zero_le _, rfl, qalloc _ _, RulesMapX.made _ _⟩
  case round =>
    obtain ⟨k, hk, rfl, hb, HM⟩ := hrel
    by_cases hlt : k < fs.length
    · obtain ⟨f, hf⟩ : ∃ f, fs[k]? = some f := ⟨_, List.getElem?_eq_getElem hlt⟩
      have HR := Lib.hid (rulesM_at hf)
      have hsf := HS.out.each f (List.mem_of_getElem? hf)
      obtain ⟨b, o, rfl, hbb, hcp, hcd⟩ := files_elem (HV.out.below hb) hf
      have hA := qalloc wr (.cells #[.string f.path, .string f.data] 55)
      have HCB := Lib.hid (CBox.new wr 55 #[.string f.path, .string f.data])
      have HMA := Lib.hid (HM.out.below hA)
      clear hf HM
      have HIO : Hid (isOwn f.path.data.toList = ((f.path.toList == [79, 87, 78, 69, 82, 83]) || sufOf wSlOwners f.path.data.toList)) := by show _ = _; rw [isOwn, tl]; rfl
      cases hq1 : (f.path.toList == [79, 87, 78, 69, 82, 83]) with
      | true =>
        have HOWN : Hid (isOwn f.path.data.toList = true) := by show _ = _; rw [HIO.out, hq1]; rfl
        clear HIO
        have HP := Lib.hid (Parse_anyX f.data hsf.2)
        generalize hx : oparse f.data = x at *
        obtain ⟨xl, xp, xc⟩ := x
        by_cases hx0 : xc = 0
        · have hxb : (xc == 0) = true := by simp [hx0]
          have HR2 : Hid (rulesM (fs.take (k + 1)) = fun x => if x = f.path.data.toList then some xl else rulesM (fs.take k) x) := by
            show _ = _; rw [HR.out, rulesStep_put (by rw [HOWN.out, hx]; simp [hx0]), hx]
          clear hx hx0 HR
          go_wp2_with (fail)
          refine (HP.out _).mono ?_
          rintro e w2 ⟨lv, rfl, hrd, hb2⟩
          obtain ⟨la, lc, rfl, -, -⟩ := rules_val hrd
          have hc0 := (HCB.out.below hb2).cell (i := 0) rfl
          have hcl := (HCB.out.below hb2).lt
          obtain ⟨w3, hput, hm3, hg3⟩ := (HMA.out.below hb2).put (by unfold maxLen; omega) hsf.1 (hrd.fewer (fun k hk => by have := hb.size; simp at hk ⊢; omega))
          rw [← HR2.out] at hm3
          have HM3 := Lib.hid hm3
          have hbw : Below w.heap.size w w2 := qtrans hb (qtrans hA hb2)
          have hb3 : Below w.heap.size w w3 := hbw.grown hg3 hbw.size (fun k e => by cases e; exact Nat.le_refl _)
          clear hm3 hg3 hrd
          go_wp2
          go_roundw
          case rel => exact ⟨k + 1, by omega, by go_num, hb3, HM3⟩
          case measure => simp [intOf]; omega
        · have hxb : (xc == 0) = false := by simp [hx0]
          have HR2 : Hid (rulesM (fs.take (k + 1)) = rulesM (fs.take k)) := by
            show _ = _; rw [HR.out, rulesStep_skip (by rw [hx]; simp [hx0])]
          clear hx hx0 HR
          go_wp2_with (fail)
          refine (HP.out _).mono ?_
          rintro e w2 ⟨lv, rfl, hrd, hb2⟩
          obtain ⟨la, lc, rfl, -, -⟩ := rules_val hrd
          have HM3 : Hid (RulesMapX w2 (List.range w.heap.size) w.heap.size (k + 1) (rulesM (fs.take (k + 1)))) := by rw [HR2.out]; exact (HMA.out.below hb2).up
          have hbw : Below w.heap.size w w2 := qtrans hb (qtrans hA hb2)
          clear hrd
          go_wp2
          go_roundw
          case rel => exact ⟨k + 1, by omega, by go_num, hbw, HM3⟩
          case measure => simp [intOf]; omega
      | false =>
        cases hq2 : sufOf wSlOwners f.path.data.toList with
        | true =>
          have HOWN : Hid (isOwn f.path.data.toList = true) := by show _ = _; rw [HIO.out, hq1, hq2]; rfl
          have HQ2 : Hid (sufOf (ByteArray.mk #[47, 79, 87, 78, 69, 82, 83]).data.toList f.path.data.toList = true) := hq2
          clear HIO hq2
          have HP := Lib.hid (Parse_anyX f.data hsf.2)
          generalize hx : oparse f.data = x at *
          obtain ⟨xl, xp, xc⟩ := x
          by_cases hx0 : xc = 0
          · have hxb : (xc == 0) = true := by simp [hx0]
            have HR2 : Hid (rulesM (fs.take (k + 1)) = fun x => if x = f.path.data.toList then some xl else rulesM (fs.take k) x) := by
              show _ = _; rw [HR.out, rulesStep_put (by rw [HOWN.out, hx]; simp [hx0]), hx]
            clear hx hx0 HR
            go_wp2_with (fail)
            refine (HasSuffix_any f.path ⟨#[47, 79, 87, 78, 69, 82, 83]⟩ _ hsf.1 (by decide)).mono ?_
            rintro e w9 ⟨rfl, rfl⟩
            rw [HQ2.out]
            go_wp2_with (fail)
            refine (HP.out _).mono ?_
            rintro e w2 ⟨lv, rfl, hrd, hb2⟩
            obtain ⟨la, lc, rfl, -, -⟩ := rules_val hrd
            have hc0 := (HCB.out.below hb2).cell (i := 0) rfl
            have hcl := (HCB.out.below hb2).lt
            obtain ⟨w3, hput, hm3, hg3⟩ := (HMA.out.below hb2).put (by unfold maxLen; omega) hsf.1 (hrd.fewer (fun k hk => by have := hb.size; simp at hk ⊢; omega))
            rw [← HR2.out] at hm3
            have HM3 := Lib.hid hm3
            have hbw : Below w.heap.size w w2 := qtrans hb (qtrans hA hb2)
            have hb3 : Below w.heap.size w w3 := hbw.grown hg3 hbw.size (fun k e => by cases e; exact Nat.le_refl _)
            clear hm3 hg3 hrd
            go_wp2
            go_roundw
            case rel => exact ⟨k + 1, by omega, by go_num, hb3, HM3⟩
            case measure => simp [intOf]; omega
          · have hxb : (xc == 0) = false := by simp [hx0]
            have HR2 : Hid (rulesM (fs.take (k + 1)) = rulesM (fs.take k)) := by
              show _ = _; rw [HR.out, rulesStep_skip (by rw [hx]; simp [hx0])]
            clear hx hx0 HR
            go_wp2_with (fail)
            refine (HasSuffix_any f.path ⟨#[47, 79, 87, 78, 69, 82, 83]⟩ _ hsf.1 (by decide)).mono ?_
            rintro e w9 ⟨rfl, rfl⟩
            rw [HQ2.out]
            go_wp2_with (fail)
            refine (HP.out _).mono ?_
            rintro e w2 ⟨lv, rfl, hrd, hb2⟩
            obtain ⟨la, lc, rfl, -, -⟩ := rules_val hrd
            have HM3 : Hid (RulesMapX w2 (List.range w.heap.size) w.heap.size (k + 1) (rulesM (fs.take (k + 1)))) := by rw [HR2.out]; exact (HMA.out.below hb2).up
            have hbw : Below w.heap.size w w2 := qtrans hb (qtrans hA hb2)
            clear hrd
            go_wp2
            go_roundw
            case rel => exact ⟨k + 1, by omega, by go_num, hbw, HM3⟩
            case measure => simp [intOf]; omega
        | false =>
          have HOWN : Hid (isOwn f.path.data.toList = false) := by show _ = _; rw [HIO.out, hq1, hq2]; rfl
          have HQ2 : Hid (sufOf (ByteArray.mk #[47, 79, 87, 78, 69, 82, 83]).data.toList f.path.data.toList = false) := hq2
          have HM3 : Hid (RulesMapX (wr.alloc (.cells #[.string f.path, .string f.data] 55)) (List.range w.heap.size) w.heap.size (k + 1) (rulesM (fs.take (k + 1)))) := by
            rw [HR.out, rulesStep_skip (by rw [HOWN.out]; rfl)]; exact HMA.out.up
          clear HIO hq2 HR
          go_wp2_with (fail)
          refine (HasSuffix_any f.path ⟨#[47, 79, 87, 78, 69, 82, 83]⟩ _ hsf.1 (by decide)).mono ?_
          rintro e w9 ⟨rfl, rfl⟩
          rw [HQ2.out]
          go_wp2
          go_roundw
          case rel => exact ⟨k + 1, by omega, by go_num, qtrans hb hA, HM3⟩
          case measure => simp [intOf]; omega
    · have hkl : k = fs.length := by omega
      rw [hkl, List.take_length] at HM
      clear hkl
      go_wp2
      go_ret
      exact ⟨rfl, HM.out, hb⟩
theorem rulesOf_any (v : Value) (fs : List OFile) (w : World) (hv : Reads w [] (filesT fs) v) (hs : SmallF fs) :
    Calls Tryz.prog 48 #[v] w fun e w' => e = .returned (.map (some w.heap.size)) ∧ RulesMap w' w.heap.size fs.length (rulesM fs) ∧ Below w.heap.size w w' :=
  (rulesOf_anyX v fs w hv hs).mono fun _ _ ⟨h1, h2, h3⟩ => ⟨h1, h2.fewer (fun _ h => by cases h), h3⟩
end Go.Proofs.YtidkpnabdfiilaaGreatDoor

namespace Go.Proofs.YtidkpnabdfiilaaGreatDoor
open Go.RowKit Go.Shelf
attribute [local go_sem] Oper.semAt_some

/-! Plain: where the directories of a path end, from the nearest to the root. -/
def dirEnds (p : List UInt8) : Nat → List Nat
  | 0 => [0]
  | n + 1 => if p.getD n 0 = 47 then (n + 1) :: dirEnds p n else dirEnds p n
theorem lastSl_take (p : List UInt8) : ∀ (n m : Nat), n ≤ m → lastSlFrom (p.take m) n = lastSlFrom p n
  | 0, _, _ => rfl
  | n + 1, m, h => by
    rw [lastSlFrom, lastSlFrom, lastSl_take p n m (by omega)]
    have : (p.take m).getD n 0 = p.getD n 0 := by
      rw [List.getD_eq_getElem?_getD, List.getD_eq_getElem?_getD, List.getElem?_take, if_pos (by omega)]
    rw [this]
theorem dirEnds_none {p : List UInt8} : ∀ {n : Nat}, lastSlFrom p n < 0 → dirEnds p n = [0]
  | 0, _ => rfl
  | n + 1, h => by
    rw [lastSlFrom] at h
    rw [dirEnds]
    split at h
    · omega
    · rename_i hc; rw [if_neg hc]; exact dirEnds_none h
theorem dirEnds_some {p : List UInt8} : ∀ {n i : Nat}, lastSlFrom p n = (i : Int) → i < n ∧ dirEnds p n = (i + 1) :: dirEnds p i
  | 0, i, h => by rw [lastSlFrom] at h; omega
  | n + 1, i, h => by
    rw [lastSlFrom] at h
    rw [dirEnds]
    split at h
    · rename_i hc
      obtain rfl : n = i := by omega
      rw [if_pos hc]; exact ⟨by omega, rfl⟩
    · rename_i hc
      rw [if_neg hc]
      obtain ⟨h1, h2⟩ := dirEnds_some h
      exact ⟨by omega, h2⟩
theorem lastSlFrom_ge (p : List UInt8) : ∀ n, lastSlFrom p n < 0 ∨ ∃ i : Nat, lastSlFrom p n = (i : Int)
  | 0 => .inl (by rw [lastSlFrom]; omega)
  | n + 1 => by
    rw [lastSlFrom]
    split
    · exact .inr ⟨n, rfl⟩
    · exact lastSlFrom_ge p n
def fileAt (p : ByteArray) (i : Nat) : ByteArray := bOf (p.data.toList.take i ++ wOwners)
def restAt (p : ByteArray) (i : Nat) : ByteArray := bOf (p.data.toList.drop i)
theorem fileAt_eq (p : ByteArray) (i : Nat) : fileAt p i = p.extract 0 i ++ ⟨#[79, 87, 78, 69, 82, 83]⟩ := by
  apply bOf_inj
  rw [fileAt, data_bOf, ByteArray.data_append, Array.toList_append, ex_take]; rfl
theorem restAt_eq (p : ByteArray) (i : Nat) : restAt p i = p.extract i p.size := by
  apply bOf_inj
  rw [restAt, data_bOf, ex_end]
def dirArg (p : ByteArray) (i : Nat) : Array Value := #[.string (fileAt p i), .string (restAt p i)]
def dirArgs (p : ByteArray) : List (Array Value) := (dirEnds p.data.toList p.size).map (dirArg p)
/-- A block is as it was. -/
def keepOne (a : Nat) (A B : World) : Prop := B.heap[a]? = A.heap[a]?
set_option maxRecDepth 100000 in
set_option maxHeartbeats 2000000 in
theorem directories1_iter (p : ByteArray) (hs : p.size ≤ 40000) (w : World) (Bs : Nat) (c1 : w.cell? ⟨Bs, 0, none⟩ = some (.string p)) :
    IterK Fence.wide 4 Tryz.prog 126 #[.pointer (some ⟨Bs, 0, none⟩)] (dirArgs p) (keepOne Bs) drewAb w := by
  have mixed := mixedK
  intro l J Jx W hW hJ hJx hY h0
  have d1 : W.cell? ⟨Bs, 0, none⟩ = some (.string p) := (hW.cell (p := ⟨Bs, 0, none⟩) (lt_of_cell c1)).trans c1
  clear c1 hW
  have HY := Lib.hid hY
  have HJ := Lib.hid hJ
  clear hY hJ hJx
  show CallsIn Fence.wide 4 Tryz.prog 126 #[.func (.yield l) #[] #[], .pointer (some ⟨Bs, 0, none⟩)] W _
  refine callsIn_of_wp Tryz.func126 rfl trivial ?_ rfl
  simp only [Tryz.ntmps126, List.size_toArray, List.length_cons, List.length_nil, Nat.reduceAdd, Nat.reduceSub, Array.replicate_succ, Array.replicate_zero, List.push_toArray, List.append_toArray, List.nil_append, List.cons_append]
  gi_wp2
  gi_loopw [3] (fun i wr => ∃ (k n : Nat), k ≤ (dirArgs p).length ∧ n ≤ p.size ∧ i = .int .i64 n ∧ wr.cell? ⟨Bs, 0, none⟩ = some (.string p) ∧ Hid ((dirArgs p).drop k = (dirEnds p.data.toList n).map (dirArg p)) ∧ J k wr)
    (fun i _ => (intOf i).toNat)
  case atStart => exact ⟨0, p.size, Nat.zero_le _, Nat.le_refl _, rfl, d1, rfl, h0⟩
  case round =>
    obtain ⟨k, n, hkl, hn, rfl, e1, HD, hJk⟩ := hrel
    clear d1 h0
    have HL : Hid (lastSlS (p.extract 0 n) = lastSlFrom p.data.toList n) := by
      show _ = _
      rw [lastSlS, ex_take, ByteArray.size_extract, Nat.min_eq_left hn, Nat.sub_zero, lastSl_take _ _ _ (Nat.le_refl _)]
    have hez : (p.extract 0 n).size ≤ 40000 := by rw [ByteArray.size_extract]; omega
    rcases lastSlFrom_ge p.data.toList n with hneg | ⟨i, hi⟩
    · obtain ⟨hk, ha, hd⟩ := drop_cons (HD.out.trans (by rw [dirEnds_none hneg]; rfl))
      have hy := HY.out k hk wr hJk
      rw [ha] at hy
      obtain ⟨fn, tmps, assign, body, hy, hR⟩ := hy
      have hy' : (Instr.yield l #[.string ⟨#[79, 87, 78, 69, 82, 83]⟩, .string p]).run Tryz.prog wr = .ok (.round l fn tmps assign body) wr := hy
      have HN : Hid ((dirArgs p).length = k + 1) := by
        have := congrArg List.length hd
        rw [List.length_drop] at this
        show _ = _
        simp at this; omega
      generalize hq : lastSlFrom p.data.toList n = q at *
      have HQ := Lib.hid hq
      clear hq ha hd hy
      have hqd : decide (q < 0) = true := by simpa using hneg
      gi_wp2_with (refine ⟨trivial, ?_⟩; gi_at_call 43; refine (callsIn_wide.2 (LastIndexByte_slash _ _ hez)).mono ?_; rintro e w' ⟨rfl, rfl⟩; rw [HL.out])
      refine hR.mono ?_
      rintro e W3 (⟨rfl, hJ3, hk3⟩ | ⟨rfl, hJx3⟩)
      · gi_wp2
        refine bodyPost_ret (results_none rfl _ _ _) rfl ?_
        exact ⟨⟨_, rfl⟩, .inl (by rw [HN.out]; exact hJ3)⟩
      · gi_wp2
        refine bodyPost_ret (results_none rfl _ _ _) rfl ?_
        exact ⟨⟨_, rfl⟩, .inr ⟨k + 1, by omega, hJx3⟩⟩
    · obtain ⟨hin, hde⟩ := dirEnds_some hi
      obtain ⟨hk, ha, hd⟩ := drop_cons (HD.out.trans (by rw [hde]; rfl))
      have HD2 := Lib.hid hd
      have hJd := HJ.out k wr wr.drew hJk ⟨1, rfl⟩
      have hy := HY.out k hk wr.drew hJd
      rw [ha] at hy
      rw [hi] at HL
      clear ha hd hde hi HD
      have hid : decide ((i : Int) < 0) = false := by simp
      obtain ⟨fn, tmps, assign, body, hy, hR⟩ := hy
      simp only [dirArg, fileAt_eq, restAt_eq] at hy
      gi_wp2_with (refine ⟨trivial, ?_⟩; gi_at_call 43; refine (callsIn_wide.2 (LastIndexByte_slash _ _ hez)).mono ?_; rintro e w' ⟨rfl, rfl⟩; rw [HL.out])
      have hw1 : IntKind.i64.wrap ((i : Int) + 1) = (i : Int) + 1 := IntWalk.i64_in _ (by omega)
      have hw2 : (0 : Int) ≤ (i : Int) + 1 := by omega
      have hw3 : (i : Int) + 1 ≤ (p.size : Int) := by omega
      have hw4 : ((i : Int) + 1).toNat = i + 1 := by omega
      have hw5 : ¬ 9223372036854775807 < min (i + 1) p.size + 6 := by omega
      have hR2 := hR.mono (R' := fun e W' => ∃ b, e = .returned (.bool b) ∧ Hid ((b = true ∧ J (k + 1) W' ∧ keepOne Bs wr.drew W') ∨ (b = false ∧ Jx (k + 1) W'))) (by
        rintro e W3 (⟨rfl, hJ3, hk3⟩ | ⟨rfl, hJx3⟩)
        · exact ⟨true, rfl, .inl ⟨rfl, hJ3, hk3⟩⟩
        · exact ⟨false, rfl, .inr ⟨rfl, hJx3⟩⟩)
      clear hR hJd
      gi_region_with_o (refine hR2.mono ?_; rintro e W3 ⟨b, rfl, hcase⟩)
      all_goals
        rcases hcase.out with ⟨rfl, hJ3, hk3⟩ | ⟨rfl, hJx3⟩
        · have e1' : W3.cell? ⟨Bs, 0, none⟩ = some (.string p) := (World.cell?_of_block (a := ⟨Bs, 0, none⟩) hk3).trans e1
          clear hR2 hy hcase hw1 hw4
          gi_wp2
          simp only [Act.put, List.setIfInBounds_toArray]
          go_roundw
          case rel =>
            repeat apply Exists.intro
            exact ⟨⟨k + 1, i, by omega, by omega, rfl, e1', HD2, hJ3⟩, rfl⟩
          case measure => simp [intOf]; omega
        · clear hR2 hy hcase hw1 hw4
          gi_wp2
          refine bodyPost_ret (results_none rfl _ _ _) rfl ?_
          exact ⟨⟨_, rfl⟩, .inr ⟨k + 1, by omega, hJx3⟩⟩
theorem directories_any (p : ByteArray) (w : World) : Calls Tryz.prog 83 #[.string p] w fun e w' =>
    e = .returned (.func (.func 126) #[] #[.pointer (some ⟨w.heap.size, 0, none⟩)]) ∧ w.alloc (.cells #[.string p] 9) = w' := by
  go_enter Tryz.func83, Tryz.ntmps83
  go_wp2
  go_ret
  exact ⟨rfl, rfl⟩
end Go.Proofs.YtidkpnabdfiilaaGreatDoor
