/- approval.flag, the closures of approval.encode, approval.encode. -/
import Derived.Test.YtidkpnabdfiilaaGreatDoorSeB
namespace Go.Proofs.YtidkpnabdfiilaaGreatDoor
open Go.RowKit Go.Shelf

def flagN (b : Bool) : Nat := if b then 1 else 0
theorem flagN_le (b : Bool) : flagN b ≤ 1099511627776 := by unfold flagN; split <;> omega
theorem flag_any (b : Bool) (w : World) : Calls Tryz.prog 105 #[.bool b] w fun e w' => e = .returned (.int .i64 ((flagN b : Nat) : Int)) ∧ w = w' := by
  cases b
  · go_enter Tryz.func105, Tryz.ntmps105
    go_wp2
    go_ret
    exact ⟨rfl, rfl⟩
  · go_enter Tryz.func105, Tryz.ntmps105
    go_wp2
    go_ret
    exact ⟨rfl, rfl⟩
/-- The captured bytes in block R. -/
def EB (R : Nat) (l : List UInt8) (W : World) : Prop := ∃ v, CBox W R 66 #[v] ∧ W.ownsRow (R + 1) 5 1 v l.length (Lib.byteCells l)
theorem EB.lt {R : Nat} {l : List UInt8} {W : World} (h : EB R l W) : R < W.heap.size := by obtain ⟨v, h1, _⟩ := h; exact h1.lt
theorem EB.below {R : Nat} {l : List UInt8} {W W' : World} (h : EB R l W) (m : Below W.heap.size W W') : EB R l W' := by
  obtain ⟨v, h1, h2⟩ := h; exact ⟨v, h1.below m, owns_below h2 m⟩
theorem EB.push {R : Nat} {l m : List UInt8} {W w2 : World} {v v' : Value} (h1 : CBox W R 66 #[v]) (h2 : W.ownsRow (R + 1) 5 1 v l.length (Lib.byteCells l))
    (ho : w2.ownsRow (R + 1) 5 1 v' (l.length + m.length) (Lib.byteCells l ++ Lib.byteCells m)) (hg : W.grownBy w2 v.ownBlock) :
    CBox w2 R 66 #[v] ∧ EB R (l ++ m) (w2.setCell ⟨R, 0, none⟩ v') ∧ Below R W (w2.setCell ⟨R, 0, none⟩ v') := by
  have hne : ∀ k, v.ownBlock = some k → R + 1 ≤ k := fun k hk => owns_block h2 hk
  have b2 : CBox w2 R 66 #[v] := (hg.block R h1.lt (fun e => by have := hne R e.symm; omega)).trans h1
  have ms : Mod [R] w2 (w2.setCell ⟨R, 0, none⟩ v') := (Mod.refl _ _).setCell (by simp) _
  refine ⟨b2, ⟨v', b2.set 0 v', ?_⟩, ?_⟩
  · rw [List.length_append, show Lib.byteCells (l ++ m) = Lib.byteCells l ++ Lib.byteCells m by simp [Lib.byteCells]]
    exact owns_mod ho ms (fun b hb hx => by have := owns_block ho hb; simp at hx; omega)
  · have hR := h1.lt
    exact ((Below.refl R W).grown hg (Nat.le_of_lt hR) (fun k hk => by have := hne k hk; omega)).setCell (Nat.le_refl _) _
/-- What the closures keep: boxes of other types. -/
def KeepT (R : Nat) (A B : World) : Prop := ∀ (b : Nat) (t : TypeId) (xs : Array Value), b ≠ R → t ≠ 5 → CBox A b t xs → CBox B b t xs
theorem KeepT.trans {R : Nat} {A B C : World} (h : KeepT R A B) (k : KeepT R B C) : KeepT R A C := fun b t xs h1 h2 h3 => k b t xs h1 h2 (h b t xs h1 h2 h3)
theorem KeepT.of {R : Nat} {A B : World} (h : Below A.heap.size A B) : KeepT R A B := fun _ _ _ _ _ h3 => h3.below h
theorem EB.keep {R : Nat} {l : List UInt8} {W w2 : World} {v : Value} (h2 : W.ownsRow (R + 1) 5 1 v l.length (Lib.byteCells l)) (hg : W.grownBy w2 v.ownBlock) (v' : Value) : KeepT R W (w2.setCell ⟨R, 0, none⟩ v') := fun b t xs hb ht h => by
  have hne : some b ≠ v.ownBlock := fun e => by
    rcases h2.2 with ⟨rfl, _⟩ | ⟨g, cap, cur, rfl, h4, h5, h6⟩
    · cases e
    · cases e
      have := h.symm.trans h5
      cases this
      exact ht rfl
  exact (Below.heap_setCell _ _ _ _ (fun e => hb e)).trans ((hg.block b h.lt hne).trans h)
theorem EB.new (w : World) : EB w.heap.size [] (w.alloc (.cells #[.slice none 0 0] 66)) := ⟨_, CBox.new _ _ _, World.ownsRow_nil _ _ _ _⟩
set_option maxRecDepth 100000 in
set_option maxHeartbeats 1000000 in
theorem encode1_any (n : Nat) (hn : n ≤ 1099511627776) (R : Nat) (l : List UInt8) (w : World) (h : EB R l w) (hl : l.length ≤ 1000000000) :
    Calls Tryz.prog 101 #[.int .i64 n, .pointer (some ⟨R, 0, none⟩)] w fun e w' => e = .returned (.tuple #[]) ∧ EB R (l ++ (intB n)) w' ∧ Below R w w' ∧ KeepT R w w' := by
  obtain ⟨i0, hi, hz0, hz1, hz2⟩ := info_parts infoByte
  have hRw := h.lt
  go_enter Tryz.func101, Tryz.ntmps101
  go_wp2_with (fail)
  refine (PutInt_any n hn w).mono ?_
  rintro e w1 ⟨rfl, hb1⟩
  obtain ⟨v, h1, h2⟩ := h.below hb1
  have hil : (intB n).length ≤ 9 := (digs_len 8 n).2
  generalize hbt : (intB n) = bt at *
  have HBT := Lib.hid hbt
  clear hbt
  have HI : Hid ((⟨bt.toArray⟩ : ByteArray).data.toList = bt) := rfl
  generalize (⟨bt.toArray⟩ : ByteArray) = t at *
  have hts : t.size ≤ 65009 := by rw [← sz, HI.out]; omega
  obtain ⟨va, vc, rfl⟩ := owns_val h2
  have H1 := Lib.hid h1
  have c0 := H1.out.cell (i := 0) rfl
  have l0 := H1.out.lt
  clear h1
  go_wp2_with (at_builtin; refine Lib.wpList_append_own_string _ rfl _ _ 66 9 rfl (R + 1) 5 i0 Tryz.underlying66 Tryz.underlying9 hi hz0 hz1 hz2 _ _ _ rfl h2 t rfl (by unfold maxLen; omega) (by omega) (by omega) ?_)
  intro v' w3 hown3 hg3 _
  rw [strCells_bytes, HI.out] at hown3
  have hts2 : t.size = bt.length := by rw [← sz, HI.out]
  rw [hts2] at hown3
  obtain ⟨b2, hw, hbw⟩ := EB.push H1.out h2 hown3 hg3
  have HWB := Lib.hid hw
  have HKP := Lib.hid ((KeepT.of (R := R) hb1).trans (EB.keep h2 hg3 v'))
  obtain ⟨va', vc', rfl⟩ := owns_val hown3
  have d0 := b2.cell (i := 0) rfl
  have g0 := b2.frozen 0
  have m0 := b2.lt
  clear hown3 hg3 hw b2 h2
  go_wp2
  go_end0
  exact ⟨rfl, by rw [HBT.out]; exact HWB.out, (hb1.mono (Nat.le_of_lt hRw)).trans hbw, HKP.out⟩
set_option maxRecDepth 100000 in
set_option maxHeartbeats 1000000 in
theorem encode2_any (s : ByteArray) (hn : s.size ≤ 65000) (R : Nat) (l : List UInt8) (w : World) (h : EB R l w) (hl : l.length ≤ 1000000000) :
    Calls Tryz.prog 103 #[.string s, .pointer (some ⟨R, 0, none⟩)] w fun e w' => e = .returned (.tuple #[]) ∧ EB R (l ++ (intB s.size ++ s.data.toList)) w' ∧ Below R w w' ∧ KeepT R w w' := by
  obtain ⟨i0, hi, hz0, hz1, hz2⟩ := info_parts infoByte
  have hRw := h.lt
  go_enter Tryz.func103, Tryz.ntmps103
  go_wp2_with (fail)
  refine (PutText_any s (by omega) w).mono ?_
  rintro e w1 ⟨rfl, hb1⟩
  obtain ⟨v, h1, h2⟩ := h.below hb1
  have hil : (intB s.size ++ s.data.toList).length ≤ 65009 := by have := (digs_len 8 s.size).2; rw [List.length_append, sz]; unfold intB; omega
  generalize hbt : (intB s.size ++ s.data.toList) = bt at *
  have HBT := Lib.hid hbt
  clear hbt
  have HI : Hid ((⟨bt.toArray⟩ : ByteArray).data.toList = bt) := rfl
  generalize (⟨bt.toArray⟩ : ByteArray) = t at *
  have hts : t.size ≤ 65009 := by rw [← sz, HI.out]; omega
  obtain ⟨va, vc, rfl⟩ := owns_val h2
  have H1 := Lib.hid h1
  have c0 := H1.out.cell (i := 0) rfl
  have l0 := H1.out.lt
  clear h1
  go_wp2_with (at_builtin; refine Lib.wpList_append_own_string _ rfl _ _ 66 9 rfl (R + 1) 5 i0 Tryz.underlying66 Tryz.underlying9 hi hz0 hz1 hz2 _ _ _ rfl h2 t rfl (by unfold maxLen; omega) (by omega) (by omega) ?_)
  intro v' w3 hown3 hg3 _
  rw [strCells_bytes, HI.out] at hown3
  have hts2 : t.size = bt.length := by rw [← sz, HI.out]
  rw [hts2] at hown3
  obtain ⟨b2, hw, hbw⟩ := EB.push H1.out h2 hown3 hg3
  have HWB := Lib.hid hw
  have HKP := Lib.hid ((KeepT.of (R := R) hb1).trans (EB.keep h2 hg3 v'))
  obtain ⟨va', vc', rfl⟩ := owns_val hown3
  have d0 := b2.cell (i := 0) rfl
  have g0 := b2.frozen 0
  have m0 := b2.lt
  clear hown3 hg3 hw b2 h2
  go_wp2
  go_end0
  exact ⟨rfl, by rw [HBT.out]; exact HWB.out, (hb1.mono (Nat.le_of_lt hRw)).trans hbw, HKP.out⟩
theorem flatC_len {cs : List FChg} {N : Nat} (h : ∀ c ∈ cs, (encC1 c).length ≤ N) : ((cs.map encC1).flatten).length ≤ cs.length * N := by
  induction cs with
  | nil => simp
  | cons c cs ih =>
    have h1 := h c (List.mem_cons_self ..)
    have h2 := ih (fun x hx => h x (List.mem_cons_of_mem _ hx))
    rw [List.map_cons, List.flatten_cons, List.length_append, List.length_cons, Nat.succ_mul]
    omega
theorem encL (s : ByteArray) : (encT s).length ≤ s.size + 9 := by
  have := (digs_len 8 s.size).2
  unfold encT intB; rw [List.length_append, sz]; omega
theorem encFL (b : Bool) : (encF b).length ≤ 9 := (digs_len 8 _).2
theorem encC1_len {c : FChg} (h : SmallC c) : (encC1 c).length ≤ 120100 := by
  have h1 := encL c.path
  have h2 := encL c.old
  have h3 := encL c.fresh
  have h4 := encFL c.hasOld
  have h5 := encFL c.hasNew
  have := h.path
  have := h.old
  have := h.fresh
  unfold encC1
  simp only [List.length_append]
  omega
theorem enc_take {cs : List FChg} {k : Nat} {c : FChg} (h : cs[k]? = some c) (p : List UInt8) : p ++ ((cs.take (k + 1)).map encC1).flatten = ((((p ++ ((cs.take k).map encC1).flatten ++ encT c.path) ++ encF c.hasOld) ++ encF c.hasNew) ++ encT c.old) ++ encT c.fresh := by
  rw [take_at h, List.map_append, List.flatten_append]
  simp [encC1]
set_option maxRecDepth 100000 in
set_option maxHeartbeats 2000000 in
theorem encode_any (v : Value) (cs : List FChg) (w : World) (h : Reads w [] (chgsT cs) v) (hl : cs.length ≤ 4000) (hs : ∀ c ∈ cs, SmallC c) :
    Calls Tryz.prog 64 #[v] w fun e w' => e = .returned (.string (bOf (encC cs))) ∧ Below w.heap.size w w' := by
  obtain ⟨a, cap, rfl, hc1, hc2⟩ := chgs_val h
  have H := Lib.hid h
  have HS := Lib.hid hs
  have HE := Lib.hid (EB.new w)
  have HA := Lib.hid (qalloc w (.cells #[.slice none 0 0] 66))
  have HZ : Hid (encC cs = intB cs.length ++ ((cs.take cs.length).map encC1).flatten) := by show _ = _; rw [List.take_length]; rfl
  have HN : Hid (encC cs ≠ []) := by
    refine Lib.hid fun e => intB_ne cs.length ?_
    unfold encC at e
    exact (List.append_eq_nil_iff.1 e).1
  have HI := (digs_len 8 cs.length).2
  clear h hs
  go_enter Tryz.func64, Tryz.ntmps64
  go_wp2_with (fail)
  refine (encode1_any cs.length (by omega) w.heap.size [] _ HE.out (by simp)).mono ?_
  rintro e w1 ⟨rfl, h1, hb1, -⟩
  rw [List.nil_append] at h1
  have HE1 : Hid (EB w.heap.size (intB cs.length ++ ((cs.take 0).map encC1).flatten) w1) := by
    rw [List.take_zero, List.map_nil, List.flatten_nil, List.append_nil]; exact h1
  have hb01 : Below w.heap.size w w1 := HA.out.trans hb1
  have hpl : (intB cs.length).length ≤ 9 := HI
  generalize intB cs.length = p at *
  clear h1 hb1 HA HE HI
  go_wp2
  go_loopw [16] (fun iv wr => ∃ k : Nat, k ≤ cs.length ∧ iv = .int .i64 k ∧ Hid (EB w.heap.size (p ++ ((cs.take k).map encC1).flatten) wr) ∧ Below w.heap.size w wr) (fun iv _ => cs.length - (intOf iv).toNat)
  case atStart => exact ⟨0, Nat.zero_le _, rfl, HE1, hb01⟩
  case round =>
    clear HE1 hb01
    obtain ⟨k, hk, rfl, HE, hbel⟩ := hrel
    have hk0 : (0 : Int) ≤ (k : Int) := by omega
    by_cases hkl : k < cs.length
    · obtain ⟨c, hc⟩ : ∃ c, cs[k]? = some c := ⟨_, List.getElem?_eq_getElem hkl⟩
      obtain ⟨b1, o1, rfl, hbb1, d0, d1, d2, d3, d4⟩ := chgs_elem (H.out.below hbel) hc
      have hk1 : (k : Int) < (cs.length : Int) := by omega
      have hsm := HS.out c (List.mem_of_getElem? hc)
      have HT := Lib.hid (enc_take hc p)
      have hL : (p ++ ((cs.take k).map encC1).flatten).length ≤ 500000000 := by
        have h1 := flatC_len (cs := cs.take k) (N := 120100) (fun x hx => encC1_len (HS.out x (List.mem_of_mem_take hx)))
        rw [List.length_take] at h1
        rw [List.length_append]
        have : min k cs.length * 120100 ≤ 4000 * 120100 := Nat.mul_le_mul_right _ (by omega)
        omega
      clear hc
      generalize p ++ ((cs.take k).map encC1).flatten = q at *
      have hz1 := hsm.path
      have hz2 := hsm.old
      have hz3 := hsm.fresh
      have l1 : (intB c.path.size).length + c.path.data.toList.length ≤ c.path.size + 9 := by have := encL c.path; unfold encT at this; rwa [List.length_append] at this
      have l2 : (intB c.old.size).length + c.old.data.toList.length ≤ c.old.size + 9 := by have := encL c.old; unfold encT at this; rwa [List.length_append] at this
      have l3 : (intB (flagN c.hasOld)).length ≤ 9 := (digs_len 8 _).2
      have l4 : (intB (flagN c.hasNew)).length ≤ 9 := (digs_len 8 _).2
      have hR := HE.out.lt
      have HA := Lib.hid (qalloc wr (.cells #[.string c.path, .bool c.hasOld, .bool c.hasNew, .string c.old, .string c.fresh] 40))
      have HB := Lib.hid (CBox.new wr 40 #[.string c.path, .bool c.hasOld, .bool c.hasNew, .string c.old, .string c.fresh])
      have HE1 := Lib.hid (HE.out.below HA.out)
      have hbA := qtrans hbel HA.out
      have hne : wr.heap.size ≠ w.heap.size := by omega
      clear hbel HE
      go_wp2_with (fail)
      refine (encode2_any c.path (by omega) w.heap.size q _ HE1.out (by omega)).mono ?_
      rintro e w2 ⟨rfl, h2, hb2, k2⟩
      have HB2 := Lib.hid (k2 _ _ _ hne (by decide) HB.out)
      have hbb2 := hbA.trans hb2
      have e2 := HB2.out.cell (i := 1) rfl
      have g2 := HB2.out.lt
      clear HE1 HB hb2 k2 hbA HA d0 d1 d2 d3 d4
      go_wp2_with (fail)
      refine (flag_any c.hasOld w2).mono ?_
      rintro e w9 ⟨rfl, rfl⟩
      go_wp2_with (fail)
      refine (encode1_any (flagN c.hasOld) (flagN_le _) w.heap.size _ _ h2 (by simp only [List.length_append]; omega)).mono ?_
      rintro e w3 ⟨rfl, h3, hb3, k3⟩
      have HB3 := Lib.hid (k3 _ _ _ hne (by decide) HB2.out)
      have hbb3 := hbb2.trans hb3
      have e3 := HB3.out.cell (i := 2) rfl
      have g3 := HB3.out.lt
      clear HB2 hb3 k3 hbb2 h2 e2 g2
      go_wp2_with (fail)
      refine (flag_any c.hasNew w3).mono ?_
      rintro e w9 ⟨rfl, rfl⟩
      go_wp2_with (fail)
      refine (encode1_any (flagN c.hasNew) (flagN_le _) w.heap.size _ _ h3 (by simp only [List.length_append]; omega)).mono ?_
      rintro e w4 ⟨rfl, h4, hb4, k4⟩
      have HB4 := Lib.hid (k4 _ _ _ hne (by decide) HB3.out)
      have hbb4 := hbb3.trans hb4
      have e4 := HB4.out.cell (i := 3) rfl
      have g4 := HB4.out.lt
      clear HB3 hb4 k4 hbb3 h3 e3 g3
      go_wp2_with (fail)
      refine (encode2_any c.old (by omega) w.heap.size _ _ h4 (by simp only [List.length_append]; omega)).mono ?_
      rintro e w5 ⟨rfl, h5, hb5, k5⟩
      have HB5 := Lib.hid (k5 _ _ _ hne (by decide) HB4.out)
      have hbb5 := hbb4.trans hb5
      have e5 := HB5.out.cell (i := 4) rfl
      have g5 := HB5.out.lt
      clear HB4 hb5 k5 hbb4 h4 e4 g4
      go_wp2_with (fail)
      refine (encode2_any c.fresh (by omega) w.heap.size _ _ h5 (by simp only [List.length_append]; omega)).mono ?_
      rintro e w6 ⟨rfl, h6, hb6, -⟩
      have hbb6 := hbb5.trans hb6
      have HE6 : Hid (EB w.heap.size (p ++ ((cs.take (k + 1)).map encC1).flatten) w6) := by rw [HT.out]; exact h6
      clear HB5 hb6 hbb5 h5 e5 g5 h6
      go_wp2
      go_roundw
      case rel => exact ⟨k + 1, by omega, by go_num, HE6, hbb6⟩
      case measure => simp [intOf]; omega
    · have hkl' : k = cs.length := by omega
      subst hkl'
      rw [← HZ.out] at HE
      obtain ⟨v, hv1, hv2⟩ := HE.out
      obtain ⟨va, vc, rfl⟩ := owns_val hv2
      have c0 := hv1.cell (i := 0) rfl
      have l0 := hv1.lt
      have ht := run_text hv2 HN.out
      clear hv1 hv2 HE
      go_wp2
      go_ret
      exact ⟨rfl, hbel⟩
end Go.Proofs.YtidkpnabdfiilaaGreatDoor
