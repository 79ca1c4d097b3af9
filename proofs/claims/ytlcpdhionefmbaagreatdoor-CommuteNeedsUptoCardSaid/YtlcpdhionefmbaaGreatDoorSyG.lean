/- The reference's recursions over expressions that look for a node: long, Kinds, refersTo. -/
import Derived.Test.YtlcpdhionefmbaaGreatDoorSyF
namespace Go.Proofs.YtlcpdhionefmbaaGreatDoor
open Go.RowKit

def anyX (p : Ex → Bool) (x : Ex) : Bool := (preN x 1).any fun q => p q.2
theorem anyX_eq (p : Ex → Bool) (x : Ex) : anyX p x = (p x || x.subs.any (anyX p)) := any_cons p x 1
def longP (x : Ex) : Bool := decide (100 < x.name.size) || decide (100 < x.more.size)
def longB (x : Ex) : Bool := anyX longP x
def kindP (k : Int) (x : Ex) : Bool := x.kind == k
def refP (l : ByteArray) (x : Ex) : Bool := x.kind == 5 && x.name.data.toList == l.data.toList
theorem kindIn_eq (k : Int) (x : Ex) : kindIn k x = anyX (kindP k) x := rfl
theorem refersB_eq (l : ByteArray) (x : Ex) : refersB l x = anyX (refP l) x := rfl
set_option maxHeartbeats 2000000 in
theorem rlong_any  (x : Ex) : ∀ (a : Option Addr) (c : Nat) (w : World), Reads w [] (subsT x.subs) (.slice a x.subs.length c) → SmX 9223372036854775807 x → nodesN x ≤ 4000000 →
    Calls Tryz.prog 45 #[exV x a c] w fun e w' => e = .returned (.bool (anyX longP x)) ∧ Below w.heap.size w w' := by
  refine Ex.ind (P := fun x => ∀ (a : Option Addr) (c : Nat) (w : World), Reads w [] (subsT x.subs) (.slice a x.subs.length c) → SmX 9223372036854775807 x → nodesN x ≤ 4000000 →
    Calls Tryz.prog 45 #[exV x a c] w fun e w' => e = .returned (.bool (anyX longP x)) ∧ Below w.heap.size w w') (fun x ih => ?_) x
  intro a c w hr hsm hN
  have HIH := Lib.hid ih
  have HR := Lib.hid hr
  have HX := Lib.hid (anyX_eq longP x)
  have HSM := Lib.hid hsm.subs
  have z1 := hsm.name
  have z2 := hsm.more
  have hnl : nodesL x.subs ≤ 4000000 := by rw [nodesN_eq] at hN; omega
  have hll := nodesL_len x.subs
  have HB := Lib.hid (CBox.new w 48 #[.int .i64 x.kind, .string x.name, .string x.more, .int .i64 x.num, .int .i64 x.den, .slice a x.subs.length c])
  have hA := qalloc w (.cells #[.int .i64 x.kind, .string x.name, .string x.more, .int .i64 x.num, .int .i64 x.den, .slice a x.subs.length c] 48)
  have HP : Hid (∀ v, longP x = v → longP x = v) := fun _ h => h
  unfold exV
  clear ih hr hsm
  by_cases h1 : 100 < x.name.size
  · have HT : Hid (anyX longP x = true) := by show _ = _; rw [HX.out, longP, decide_eq_true h1]; rfl
    go_enter Tryz.func45, Tryz.ntmps45
    go_wp2
    go_ret
    exact ⟨ret_bool (by rw [HT.out]), hA⟩
  by_cases h2 : 100 < x.more.size
  · have HT : Hid (anyX longP x = true) := by show _ = _; rw [HX.out, longP, decide_eq_true h2, Bool.or_true]; rfl
    go_enter Tryz.func45, Tryz.ntmps45
    go_wp2
    go_ret
    exact ⟨ret_bool (by rw [HT.out]), hA⟩
  have hp : longP x = false := by rw [longP, decide_eq_false h1, decide_eq_false h2]; rfl
  have HX2 : Hid (anyX longP x = x.subs.any (anyX longP)) := by show _ = _; rw [HX.out, hp, Bool.false_or]
  clear HX HP
  go_enter Tryz.func45, Tryz.ntmps45
  all_goals
    go_wp2
    generalize w.alloc (.cells #[.int .i64 x.kind, .string x.name, .string x.more, .int .i64 x.num, .int .i64 x.den, .slice a x.subs.length c] 48) = w0 at *
    go_loopw [3] (fun iv wr => ∃ k : Nat, k ≤ x.subs.length ∧ iv = .int .i64 k ∧ Hid ((x.subs.take k).any (anyX longP) = false) ∧ CBox wr w.heap.size 48 #[.int .i64 x.kind, .string x.name, .string x.more, .int .i64 x.num, .int .i64 x.den, .slice a x.subs.length c] ∧ Below w.heap.size w wr) (fun iv _ => x.subs.length - (intOf iv).toNat)
    case atStart => exact ⟨0, Nat.zero_le _, rfl, rfl, HB.out, hA⟩
    case round =>
      obtain ⟨q, hq, rfl, HF, hbx, hb⟩ := hrel
      have b5 := hbx.cell (i := 5) rfl
      have bl := hbx.lt
      by_cases hlt : q < x.subs.length
      · obtain ⟨y, hy⟩ : ∃ y, x.subs[q]? = some y := ⟨_, List.getElem?_eq_getElem hlt⟩
        obtain ⟨b, o, sa, sc, rfl, hbb, y0, y1, y2, y3, y4, y5, _, _, HRY⟩ := subs_elem (HR.out.below hb) hy
        have hyn := nodesL_mem (List.mem_of_getElem? hy)
        have HTK := Lib.hid (any_take (anyX longP) hy)
        have HYS := Lib.hid (fun h => any_yes (anyX longP) hy h)
        have HC := Lib.hid (HIH.out y (List.mem_of_getElem? hy) sa sc wr HRY.out (HSM.out y (List.mem_of_getElem? hy)) (by omega))
        unfold exV at HC
        generalize hr : anyX longP y = r at *
        clear hy HRY hr
        go_wp2_with (fail)
        refine HC.out.mono ?_
        rintro e w1 ⟨rfl, hb1⟩
        have hbx1 := hbx.below hb1
        clear hbx b5 y0 y1 y2 y3 y4 y5
        cases r with
        | true =>
          go_wp2
          go_ret
          exact ⟨ret_bool (by rw [HX2.out]; exact (HYS.out (by first | rfl | trivial)).symm), qtrans hb hb1⟩
        | false =>
          go_wp2
          go_roundw
          case rel => exact ⟨q + 1, by omega, by go_num, by show _ = _; rw [HTK.out, HF.out]; rfl, hbx1, qtrans hb hb1⟩
          case measure => simp [intOf]; omega
      · have hkl : q = x.subs.length := by omega
        rw [hkl, List.take_length] at HF
        go_wp2
        go_ret
        exact ⟨ret_bool (by rw [HX2.out, HF.out]), hb⟩
set_option maxHeartbeats 2000000 in
theorem rKinds_any (kk : Int) (x : Ex) : ∀ (a : Option Addr) (c : Nat) (w : World), Reads w [] (subsT x.subs) (.slice a x.subs.length c) → SmX 9223372036854775807 x → nodesN x ≤ 4000000 →
    Calls Tryz.prog 96 #[exV x a c, .int .i64 kk] w fun e w' => e = .returned (.bool (anyX (kindP kk) x)) ∧ Below w.heap.size w w' := by
  refine Ex.ind (P := fun x => ∀ (a : Option Addr) (c : Nat) (w : World), Reads w [] (subsT x.subs) (.slice a x.subs.length c) → SmX 9223372036854775807 x → nodesN x ≤ 4000000 →
    Calls Tryz.prog 96 #[exV x a c, .int .i64 kk] w fun e w' => e = .returned (.bool (anyX (kindP kk) x)) ∧ Below w.heap.size w w') (fun x ih => ?_) x
  intro a c w hr hsm hN
  have HIH := Lib.hid ih
  have HR := Lib.hid hr
  have HX := Lib.hid (anyX_eq (kindP kk) x)
  have HSM := Lib.hid hsm.subs
  have z1 := hsm.name
  have z2 := hsm.more
  have hnl : nodesL x.subs ≤ 4000000 := by rw [nodesN_eq] at hN; omega
  have hll := nodesL_len x.subs
  have HB := Lib.hid (CBox.new w 48 #[.int .i64 x.kind, .string x.name, .string x.more, .int .i64 x.num, .int .i64 x.den, .slice a x.subs.length c])
  have hA := qalloc w (.cells #[.int .i64 x.kind, .string x.name, .string x.more, .int .i64 x.num, .int .i64 x.den, .slice a x.subs.length c] 48)
  have HP : Hid (∀ v, (kindP kk) x = v → (kindP kk) x = v) := fun _ h => h
  unfold exV
  clear ih hr hsm
  cases hp : (x.kind == kk) with
  | true =>
    have HT : Hid (anyX (kindP kk) x = true) := by show _ = _; rw [HX.out, kindP, hp]; rfl
    go_enter Tryz.func96, Tryz.ntmps96
    go_wp2
    go_ret
    exact ⟨ret_bool (by rw [HT.out]), hA⟩
  | false =>
  have hp : kindP kk x = false := hp
  have HX2 : Hid (anyX (kindP kk) x = x.subs.any (anyX (kindP kk))) := by show _ = _; rw [HX.out, hp, Bool.false_or]
  clear HX HP
  go_enter Tryz.func96, Tryz.ntmps96
  all_goals
    go_wp2
    generalize w.alloc (.cells #[.int .i64 x.kind, .string x.name, .string x.more, .int .i64 x.num, .int .i64 x.den, .slice a x.subs.length c] 48) = w0 at *
    go_loopw [5] (fun iv wr => ∃ k : Nat, k ≤ x.subs.length ∧ iv = .int .i64 k ∧ Hid ((x.subs.take k).any (anyX (kindP kk)) = false) ∧ CBox wr w.heap.size 48 #[.int .i64 x.kind, .string x.name, .string x.more, .int .i64 x.num, .int .i64 x.den, .slice a x.subs.length c] ∧ Below w.heap.size w wr) (fun iv _ => x.subs.length - (intOf iv).toNat)
    case atStart => exact ⟨0, Nat.zero_le _, rfl, rfl, HB.out, hA⟩
    case round =>
      obtain ⟨q, hq, rfl, HF, hbx, hb⟩ := hrel
      have b5 := hbx.cell (i := 5) rfl
      have bl := hbx.lt
      by_cases hlt : q < x.subs.length
      · obtain ⟨y, hy⟩ : ∃ y, x.subs[q]? = some y := ⟨_, List.getElem?_eq_getElem hlt⟩
        obtain ⟨b, o, sa, sc, rfl, hbb, y0, y1, y2, y3, y4, y5, _, _, HRY⟩ := subs_elem (HR.out.below hb) hy
        have hyn := nodesL_mem (List.mem_of_getElem? hy)
        have HTK := Lib.hid (any_take (anyX (kindP kk)) hy)
        have HYS := Lib.hid (fun h => any_yes (anyX (kindP kk)) hy h)
        have HC := Lib.hid (HIH.out y (List.mem_of_getElem? hy) sa sc wr HRY.out (HSM.out y (List.mem_of_getElem? hy)) (by omega))
        unfold exV at HC
        generalize hr : anyX (kindP kk) y = r at *
        clear hy HRY hr
        go_wp2_with (fail)
        refine HC.out.mono ?_
        rintro e w1 ⟨rfl, hb1⟩
        have hbx1 := hbx.below hb1
        clear hbx b5 y0 y1 y2 y3 y4 y5
        cases r with
        | true =>
          go_wp2
          go_ret
          exact ⟨ret_bool (by rw [HX2.out]; exact (HYS.out (by first | rfl | trivial)).symm), qtrans hb hb1⟩
        | false =>
          go_wp2
          go_roundw
          case rel => exact ⟨q + 1, by omega, by go_num, by show _ = _; rw [HTK.out, HF.out]; rfl, hbx1, qtrans hb hb1⟩
          case measure => simp [intOf]; omega
      · have hkl : q = x.subs.length := by omega
        rw [hkl, List.take_length] at HF
        go_wp2
        go_ret
        exact ⟨ret_bool (by rw [HX2.out, HF.out]), hb⟩
set_option maxHeartbeats 2000000 in
theorem refersTo_any (l : ByteArray) (x : Ex) : ∀ (a : Option Addr) (c : Nat) (w : World), Reads w [] (subsT x.subs) (.slice a x.subs.length c) → SmX 9223372036854775807 x → nodesN x ≤ 4000000 →
    Calls Tryz.prog 98 #[exV x a c, .string l] w fun e w' => e = .returned (.bool (anyX (refP l) x)) ∧ Below w.heap.size w w' := by
  refine Ex.ind (P := fun x => ∀ (a : Option Addr) (c : Nat) (w : World), Reads w [] (subsT x.subs) (.slice a x.subs.length c) → SmX 9223372036854775807 x → nodesN x ≤ 4000000 →
    Calls Tryz.prog 98 #[exV x a c, .string l] w fun e w' => e = .returned (.bool (anyX (refP l) x)) ∧ Below w.heap.size w w') (fun x ih => ?_) x
  intro a c w hr hsm hN
  have HIH := Lib.hid ih
  have HR := Lib.hid hr
  have HX := Lib.hid (anyX_eq (refP l) x)
  have HSM := Lib.hid hsm.subs
  have z1 := hsm.name
  have z2 := hsm.more
  have hnl : nodesL x.subs ≤ 4000000 := by rw [nodesN_eq] at hN; omega
  have hll := nodesL_len x.subs
  have HB := Lib.hid (CBox.new w 48 #[.int .i64 x.kind, .string x.name, .string x.more, .int .i64 x.num, .int .i64 x.den, .slice a x.subs.length c])
  have hA := qalloc w (.cells #[.int .i64 x.kind, .string x.name, .string x.more, .int .i64 x.num, .int .i64 x.den, .slice a x.subs.length c] 48)
  have HP : Hid (∀ v, (refP l) x = v → (refP l) x = v) := fun _ h => h
  unfold exV
  clear ih hr hsm
  have HE : Hid (refP l x = ((x.kind == 5) && (x.name.toList == l.toList))) := by show _ = _; rw [refP, tl, tl]
  cases hp : ((x.kind == 5) && (x.name.toList == l.toList)) with
  | true =>
    have HT : Hid (anyX (refP l) x = true) := by show _ = _; rw [HX.out, HE.out, hp]; rfl
    rw [Bool.and_eq_true] at hp
    obtain ⟨h5, hl⟩ := hp
    go_enter Tryz.func98, Tryz.ntmps98
    go_wp2
    go_ret
    exact ⟨ret_bool (by rw [HT.out]), hA⟩
  | false =>
  have hcase : Hid ((x.kind == 5) = false ∨ (x.kind == 5) = true ∧ (x.name.toList == l.toList) = false) := by
    cases h5 : (x.kind == 5) with
    | false => exact .inl rfl
    | true => rw [h5] at hp; exact .inr ⟨rfl, by simpa using hp⟩
  have hp : refP l x = false := by rw [HE.out, hp]
  have HX2 : Hid (anyX (refP l) x = x.subs.any (anyX (refP l))) := by show _ = _; rw [HX.out, hp, Bool.false_or]
  clear HX HP
  go_enter Tryz.func98, Tryz.ntmps98
  rcases hcase.out with h5 | ⟨h5, hl⟩
  all_goals
    go_wp2
    generalize w.alloc (.cells #[.int .i64 x.kind, .string x.name, .string x.more, .int .i64 x.num, .int .i64 x.den, .slice a x.subs.length c] 48) = w0 at *
    go_loopw [5] (fun iv wr => ∃ k : Nat, k ≤ x.subs.length ∧ iv = .int .i64 k ∧ Hid ((x.subs.take k).any (anyX (refP l)) = false) ∧ CBox wr w.heap.size 48 #[.int .i64 x.kind, .string x.name, .string x.more, .int .i64 x.num, .int .i64 x.den, .slice a x.subs.length c] ∧ Below w.heap.size w wr) (fun iv _ => x.subs.length - (intOf iv).toNat)
    case atStart => exact ⟨0, Nat.zero_le _, rfl, rfl, HB.out, hA⟩
    case round =>
      obtain ⟨q, hq, rfl, HF, hbx, hb⟩ := hrel
      have b5 := hbx.cell (i := 5) rfl
      have bl := hbx.lt
      by_cases hlt : q < x.subs.length
      · obtain ⟨y, hy⟩ : ∃ y, x.subs[q]? = some y := ⟨_, List.getElem?_eq_getElem hlt⟩
        obtain ⟨b, o, sa, sc, rfl, hbb, y0, y1, y2, y3, y4, y5, _, _, HRY⟩ := subs_elem (HR.out.below hb) hy
        have hyn := nodesL_mem (List.mem_of_getElem? hy)
        have HTK := Lib.hid (any_take (anyX (refP l)) hy)
        have HYS := Lib.hid (fun h => any_yes (anyX (refP l)) hy h)
        have HC := Lib.hid (HIH.out y (List.mem_of_getElem? hy) sa sc wr HRY.out (HSM.out y (List.mem_of_getElem? hy)) (by omega))
        unfold exV at HC
        generalize hr : anyX (refP l) y = r at *
        clear hy HRY hr
        go_wp2_with (fail)
        refine HC.out.mono ?_
        rintro e w1 ⟨rfl, hb1⟩
        have hbx1 := hbx.below hb1
        clear hbx b5 y0 y1 y2 y3 y4 y5
        cases r with
        | true =>
          go_wp2
          go_ret
          exact ⟨ret_bool (by rw [HX2.out]; exact (HYS.out (by first | rfl | trivial)).symm), qtrans hb hb1⟩
        | false =>
          go_wp2
          go_roundw
          case rel => exact ⟨q + 1, by omega, by go_num, by show _ = _; rw [HTK.out, HF.out]; rfl, hbx1, qtrans hb hb1⟩
          case measure => simp [intOf]; omega
      · have hkl : q = x.subs.length := by omega
        rw [hkl, List.take_length] at HF
        go_wp2
        go_ret
        exact ⟨ret_bool (by rw [HX2.out, HF.out]), hb⟩
end Go.Proofs.YtlcpdhionefmbaaGreatDoor
