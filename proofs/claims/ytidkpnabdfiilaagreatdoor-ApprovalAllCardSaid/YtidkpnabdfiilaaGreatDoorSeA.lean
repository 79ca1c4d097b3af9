/- approval.seen: the closure, slices.ContainsFunc over groups with it, the iterator. -/
import Derived.Test.YtidkpnabdfiilaaGreatDoorExB
import Derived.BigRegionIn
namespace Go.Proofs.YtidkpnabdfiilaaGreatDoor
open Go.RowKit Go.Shelf
attribute [local go_sem] Oper.semAt_some

def seesG (who : ByteArray) (gs : List (List ByteArray)) : Bool := gs.any fun g => memS who g
theorem seen11_any (v : Value) (g : List ByteArray) (who : ByteArray) (Bw : Nat) (w : World) (hg : Strs w v g) (hn : g.length ≤ 40000) (hc : w.cell? ⟨Bw, 0, none⟩ = some (.string who)) :
    Calls Tryz.prog 99 #[v, .pointer (some ⟨Bw, 0, none⟩)] w fun e w' => e = .returned (.bool (memS who g)) ∧ w = w' := by
  have HC := Lib.hid (SContains_any v who g w hg hn)
  obtain ⟨a, cap, rfl, h1, h2⟩ := hg.len
  clear hg
  go_enter Tryz.func99, Tryz.ntmps99
  go_wp2_with (go_at_call 100; refine HC.out.mono ?_; rintro e w' ⟨rfl, rfl⟩)
  go_ret
  exact ⟨rfl, rfl⟩
set_option maxHeartbeats 1000000 in
theorem IndexFunc_seen (v : Value) (gs : List (List ByteArray)) (who : ByteArray) (Bw : Nat) (w : World) (hv : Reads w [] (groupsT gs) v) (hn : ∀ g ∈ gs, g.length ≤ 40000) (hc : w.cell? ⟨Bw, 0, none⟩ = some (.string who)) :
    Calls Tryz.prog 137 #[v, .func (.func 99) #[] #[.pointer (some ⟨Bw, 0, none⟩)]] w fun e w' => ∃ r : Int, e = .returned (.int .i64 r) ∧ decide (0 ≤ r) = seesG who gs ∧ w = w' := by
  obtain ⟨a, cap, rfl, hc1, hc2⟩ := groups_val hv
  have HV := Lib.hid hv
  have HN := Lib.hid hn
  have HW := Lib.hid hc
  clear hv hn hc
  go_enter Tryz.func137, Tryz.ntmps137
  go_wp2
  go_loop [8] (fun i => ∃ k : Nat, k ≤ gs.length ∧ i = .int .i64 k ∧ Hid (∀ (j : Nat) (g : List ByteArray), j < k → gs[j]? = some g → memS who g = false)) (fun i => gs.length - (intOf i).toNat)
  case atStart => exact ⟨0, Nat.zero_le _, rfl, fun j g hj => by omega⟩
  case round =>
    obtain ⟨k, hk, rfl, HK⟩ := hrel
    by_cases hlt : k < gs.length
    · obtain ⟨g, hg⟩ : ∃ g, gs[k]? = some g := ⟨_, List.getElem?_eq_getElem hlt⟩
      obtain ⟨b, o, ag, cg, rfl, hb, hcell, hg1, hg2, HS⟩ := groups_elem HV.out hg
      have HT : Hid (memS who g = true → seesG who gs = true) := fun e => by rw [seesG, List.any_eq_true]; exact ⟨g, List.mem_of_getElem? hg, e⟩
      have HF : Hid (memS who g = false → ∀ (j : Nat) (g : List ByteArray), j < k + 1 → gs[j]? = some g → memS who g = false) := fun e j g' hj hg' => by
        by_cases ej : j = k
        · rw [ej, hg] at hg'; cases hg'; exact e
        · exact HK.out j g' (by omega) hg'
      have HCL := Lib.hid (seen11_any _ g who Bw w HS.out (HN.out g (List.mem_of_getElem? hg)) HW.out)
      clear hg
      cases hm : memS who g with
      | true =>
        have H := Lib.hid (HT.out hm)
        rw [hm] at HCL
        go_wp2_with (go_at_call 99; refine HCL.out.mono ?_; rintro e w' ⟨rfl, rfl⟩)
        go_ret
        exact ⟨k, rfl, by rw [H.out]; simp, rfl⟩
      | false =>
        have H := Lib.hid (HF.out hm)
        rw [hm] at HCL
        go_wp2_with (go_at_call 99; refine HCL.out.mono ?_; rintro e w' ⟨rfl, rfl⟩)
        go_round
        case rel => exact ⟨k + 1, by omega, by go_num, H⟩
        case measure => simp [intOf]; omega
    · have H : Hid (seesG who gs = false) := by
        show _ = _
        rw [seesG, List.any_eq_false]
        intro g hg
        obtain ⟨i, hi, rfl⟩ := List.getElem_of_mem hg
        rw [HK.out i _ (by omega) (List.getElem?_eq_getElem hi)]; simp
      go_wp2
      go_ret
      exact ⟨-1, rfl, by rw [H.out]; rfl, rfl⟩
theorem ContainsFunc_seen (v : Value) (gs : List (List ByteArray)) (who : ByteArray) (Bw : Nat) (w : World) (hv : Reads w [] (groupsT gs) v) (hn : ∀ g ∈ gs, g.length ≤ 40000) (hc : w.cell? ⟨Bw, 0, none⟩ = some (.string who)) :
    Calls Tryz.prog 98 #[v, .func (.func 99) #[] #[.pointer (some ⟨Bw, 0, none⟩)]] w fun e w' => e = .returned (.bool (seesG who gs)) ∧ w = w' := by
  have HI := Lib.hid (IndexFunc_seen v gs who Bw w hv hn hc)
  obtain ⟨a, cap, rfl, hc1, hc2⟩ := groups_val hv
  clear hv hn hc
  go_enter Tryz.func98, Tryz.ntmps98
  go_wp2_with (go_at_call 137; refine HI.out.mono ?_; rintro e w' ⟨r, rfl, hr, rfl⟩)
  go_ret
  exact ⟨rfl, rfl⟩
/-! The iterator. -/
def seenFrom (who : ByteArray) (l : List OwnedC) : List FChg := (l.filter fun x => seesG who x.2).map (·.1)
theorem seenFrom_at {who : ByteArray} {l : List OwnedC} {k : Nat} {x : OwnedC} (h : l[k]? = some x) : seenFrom who (l.drop k) = if seesG who x.2 then x.1 :: seenFrom who (l.drop (k + 1)) else seenFrom who (l.drop (k + 1)) := by
  rw [drop_at h, seenFrom, List.filter_cons]
  split <;> rfl
def chgArg (c : FChg) : Array Value := #[.agg #[.string c.path, .bool c.hasOld, .bool c.hasNew, .string c.old, .string c.fresh]]
def seenArgs (who : ByteArray) (l : List OwnedC) : List (Array Value) := (seenFrom who l).map chgArg
def growAb (A A' : World) : Prop := Below A.heap.size A A'
theorem drop_map_cons {α β : Type} {f : α → β} {bs : List β} {k : Nat} {x : α} {r : List α} (h : bs.drop k = (x :: r).map f) : ∃ hk : k < bs.length, bs[k] = f x ∧ bs.drop (k + 1) = r.map f := by
  obtain ⟨hk, h1, h2⟩ := drop_cons (h.trans (List.map_cons ..))
  exact ⟨hk, h1, h2⟩
set_option maxRecDepth 100000 in
set_option maxHeartbeats 2000000 in
theorem seen1_iter (l : List OwnedC) (lv : Value) (who : ByteArray) (w w9 : World) (hw9 : Below w.heap.size w w9) (Bl Bw : Nat) (c1 : w.cell? ⟨Bl, 0, none⟩ = some lv) (c2 : w.cell? ⟨Bw, 0, none⟩ = some (.string who)) (hr : Reads w [] (ownedsT l) lv) (hlen : l.length ≤ 40000) (hsm : ∀ x ∈ l, ∀ g ∈ x.2, g.length ≤ 40000) :
    IterK Fence.wide 4 Tryz.prog 97 #[.pointer (some ⟨Bl, 0, none⟩), .pointer (some ⟨Bw, 0, none⟩)] (seenArgs who l) (fun A A' => Below w.heap.size A A') growAb w9 := by
  intro n J Jx W hW9 hJ hJx hY h0
  have hW : Below w.heap.size w W := qtrans hw9 hW9
  clear hW9
  have hBl : Bl < w.heap.size := lt_of_cell c1
  have hBw : Bw < w.heap.size := lt_of_cell c2
  obtain ⟨la, lc, rfl, hl1, hl2⟩ := owneds_val hr
  have d1 : W.cell? ⟨Bl, 0, none⟩ = some (.slice la l.length lc) := (hW.cell (p := ⟨Bl, 0, none⟩) hBl).trans c1
  have HY := Lib.hid hY
  have HJ := Lib.hid hJ
  have HR := Lib.hid hr
  have HSM := Lib.hid hsm
  clear hY hJ hJx hr hsm c1
  show CallsIn Fence.wide 4 Tryz.prog 97 #[.func (.yield n) #[] #[], .pointer (some ⟨Bl, 0, none⟩), .pointer (some ⟨Bw, 0, none⟩)] W _
  refine callsIn_of_wp Tryz.func97 rfl trivial ?_ rfl
  simp only [Tryz.ntmps97, List.size_toArray, List.length_cons, List.length_nil, Nat.reduceAdd, Nat.reduceSub, Array.replicate_succ, Array.replicate_zero, List.push_toArray, List.append_toArray, List.nil_append, List.cons_append]
  gi_wp2
  gi_loopw [9] (fun iv wr => ∃ (i k : Nat), i ≤ l.length ∧ k ≤ (seenArgs who l).length ∧ iv = .int .i64 i ∧ Below w.heap.size w wr ∧ Hid ((seenArgs who l).drop k = (seenFrom who (l.drop i)).map chgArg) ∧ J k wr)
    (fun iv _ => l.length - (intOf iv).toNat)
  case atStart => exact ⟨0, 0, Nat.zero_le _, Nat.zero_le _, rfl, hW, rfl, h0⟩
  case round =>
    obtain ⟨i, k, hi, hk, rfl, hbel, HD, hJk⟩ := hrel
    clear d1 h0 hW
    have hi0 : (0 : Int) ≤ (i : Int) := by omega
    by_cases hil : i < l.length
    · obtain ⟨x, hx⟩ : ∃ x, l[i]? = some x := ⟨_, List.getElem?_eq_getElem hil⟩
      obtain ⟨b1, o1, ag, cg, rfl, hbb1, ⟨e0, e1, e2, e3, e4, e5⟩, hg1, hg2, HG⟩ := owneds_elem (HR.out.below hbel) hx
      have hi1 : (i : Int) < (l.length : Int) := by omega
      have HD2 := Lib.hid (HD.out.trans (congrArg (List.map chgArg) (seenFrom_at hx)))
      have hA := qalloc wr (.cells #[.string x.1.path, .bool x.1.hasOld, .bool x.1.hasNew, .string x.1.old, .string x.1.fresh, .slice ag x.2.length cg] 149)
      have HBX := Lib.hid (CBox.new wr 149 #[.string x.1.path, .bool x.1.hasOld, .bool x.1.hasNew, .string x.1.old, .string x.1.fresh, .slice ag x.2.length cg])
      have hwho : wr.cell? ⟨Bw, 0, none⟩ = some (.string who) := (hbel.cell (p := ⟨Bw, 0, none⟩) hBw).trans c2
      have HCF := Lib.hid (ContainsFunc_seen (.slice ag x.2.length cg) x.2 who Bw _ (HG.out.below hA) (HSM.out x (List.mem_of_getElem? hx)) ((hA.cell (p := ⟨Bw, 0, none⟩) (Nat.lt_of_lt_of_le hBw hbel.size)).trans hwho))
      have hJA := HJ.out k wr _ hJk hA
      have hbA := qtrans hbel hA
      clear hx HG HD hJk
      cases hsee : seesG who x.2 with
      | false =>
        have HD3 : Hid ((seenArgs who l).drop k = (seenFrom who (l.drop (i + 1))).map chgArg) := by show _ = _; rw [HD2.out, hsee]; rfl
        rw [hsee] at HCF
        refine wpIn_wide.2 ?_
        go_wp2_with (go_at_call 98; refine HCF.out.mono ?_; rintro e w' ⟨rfl, rfl⟩)
        go_roundw
        case rel => exact ⟨i + 1, k, by omega, hk, by go_num, hbA, HD3, hJA⟩
        case measure => simp [intOf]; omega
      | true =>
        obtain ⟨hkl, ha, hd⟩ := drop_map_cons (HD2.out.trans (by rw [hsee]; rfl))
        have HD3 := Lib.hid hd
        have hy := HY.out k hkl _ hJA
        rw [ha] at hy
        obtain ⟨fn, tmps, assign, body, hy, hR⟩ := hy
        simp only [chgArg] at hy
        rw [hsee] at HCF
        clear ha hd HD2
        gi_wp2_with (refine ⟨trivial, ?_⟩; gi_at_call 98; refine (callsIn_wide.2 HCF.out).mono ?_; rintro e w' ⟨rfl, rfl⟩)
        refine hR.mono ?_
        rintro e W3 (⟨rfl, hJ3, hk3⟩ | ⟨rfl, hJx3⟩)
        · clear hR hy
          have hb3 := hbA.trans hk3
          gi_wp2
          go_roundw
          case rel => exact ⟨i + 1, k + 1, by omega, by omega, by go_num, hb3, HD3, hJ3⟩
          case measure => simp [intOf]; omega
        · gi_wp2
          refine bodyPost_ret (results_none rfl _ _ _) rfl ?_
          exact ⟨⟨_, rfl⟩, .inr ⟨k + 1, by omega, hJx3⟩⟩
    · have HN : Hid (k = (seenArgs who l).length) := by
        have := congrArg List.length HD.out
        rw [show l.drop i = [] from List.drop_eq_nil_of_le (by omega)] at this
        simp [seenFrom] at this
        show _ = _
        omega
      gi_wp2
      go_end0
      exact ⟨⟨_, rfl⟩, .inl (by rw [← HN.out]; exact hJk)⟩
end Go.Proofs.YtidkpnabdfiilaaGreatDoor
