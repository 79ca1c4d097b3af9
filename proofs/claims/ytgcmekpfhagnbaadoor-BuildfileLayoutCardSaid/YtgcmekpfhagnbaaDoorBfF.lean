/- buildfile.Check, with the library's ContainsFunc over rules. -/
import Derived.Test.YtgcmekpfhagnbaaDoorMem2
namespace Go.Proofs.YtgcmekpfhagnbaaDoor
open Go.RowKit

theorem Check1_any (kd : Int) (nm nm' : ByteArray) (ad av : Option Addr) (nd cd nv cv : Nat) (B : Nat) (w : World) (hc : w.cell? ⟨B, 1, none⟩ = some (.string nm')) (hB : B < w.heap.size) :
    Calls Tryd.prog 48 #[.agg #[.int .i64 kd, .string nm, .slice ad nd cd, .slice av nv cv], .pointer (some ⟨B, 0, none⟩)] w fun e w' => e = .returned (.bool (nm.toList == nm'.toList)) ∧ Below w.heap.size w w' := by
  go_enter Tryd.func48, Tryd.ntmps48
  go_wp2
  go_ret
  exact ⟨rfl, qalloc _ _⟩
theorem IndexFunc_any (v : Value) (rs : List Rule) (B : Nat) (nm : ByteArray) (w : World) (hr : IsRules w v rs) (_hn : rs.length ≤ 40000) (hc : w.cell? ⟨B, 1, none⟩ = some (.string nm)) :
    Calls Tryd.prog 74 #[v, .func (.func 48) #[] #[.pointer (some ⟨B, 0, none⟩)]] w fun e w' => (∃ r : Int, e = .returned (.int .i64 r) ∧ decide (0 ≤ r) = nameIn nm rs) ∧ Below w.heap.size w w' := by
  obtain ⟨a, cap, rfl, h1, h2⟩ := hr.val
  have HR := Lib.hid hr
  have hBz : B < w.heap.size := lt_of_cell hc
  clear hr
  go_enter Tryd.func74, Tryd.ntmps74
  go_wp2
  go_loopw [8] (fun i wr => ∃ k : Nat, k ≤ rs.length ∧ i = .int .i64 k ∧ Below w.heap.size w wr ∧ Hid (∀ (j : Nat) (r : Rule), j < k → rs[j]? = some r → (r.name.toList == nm.toList) = false)) (fun i _ => rs.length - (intOf i).toNat)
  case atStart => exact ⟨0, Nat.zero_le _, rfl, qrefl _, fun j _ hj => by omega⟩
  case round =>
    obtain ⟨k, hk, rfl, hb, HE⟩ := hrel
    by_cases hlt : k < rs.length
    · obtain ⟨r, hrk⟩ : ∃ r, rs[k]? = some r := ⟨_, List.getElem?_eq_getElem hlt⟩
      obtain ⟨b, o, ad, cd, av, cv, rfl, hbb, c0, c1, c2, c3, _, _⟩ := (HR.out.below hb).elem hrk
      have HRK := Lib.hid hrk
      clear hrk
      have hcr : wr.cell? ⟨B, 1, none⟩ = some (.string nm) := (hb.cell (p := ⟨B, 1, none⟩) hBz).trans hc
      have hBr : B < wr.heap.size := lt_of_cell hcr
      cases he : (r.name.toList == nm.toList) with
      | true =>
        have HF : Hid (nameIn nm rs = true) := nameIn_at HRK.out he
        go_wp2_with (go_at_call 48; refine (Check1_any _ _ _ _ _ _ _ _ _ _ _ hcr hBr).mono ?_; rintro e w1 ⟨rfl, hb1⟩)
        go_ret
        exact ⟨⟨k, rfl, by rw [HF.out]; simp⟩, qtrans hb hb1⟩
      | false =>
        have HN : Hid (∀ (j : Nat) (r : Rule), j < k + 1 → rs[j]? = some r → (r.name.toList == nm.toList) = false) := fun j r' hj hr' => by
          by_cases e : j = k
          · subst e; have := HRK.out.symm.trans hr'; cases this; exact he
          · exact HE.out j r' (by omega) hr'
        go_wp2_with (go_at_call 48; refine (Check1_any _ _ _ _ _ _ _ _ _ _ _ hcr hBr).mono ?_; rintro e w1 ⟨rfl, hb1⟩)
        go_roundw
        case rel => exact ⟨k + 1, by omega, by go_num, qtrans hb hb1, HN⟩
        case measure => simp [intOf]; omega
    · have HF : Hid (nameIn nm rs = false) := nameIn_none (fun j r hr => HE.out j r (by have := (List.getElem?_eq_some_iff.1 hr).1; omega) hr)
      go_wp2
      go_ret
      exact ⟨⟨-1, rfl, by rw [HF.out]; rfl⟩, hb⟩
theorem ContainsFunc_any (v : Value) (rs : List Rule) (B : Nat) (nm : ByteArray) (w : World) (hr : IsRules w v rs) (hn : rs.length ≤ 40000) (hc : w.cell? ⟨B, 1, none⟩ = some (.string nm)) :
    Calls Tryd.prog 47 #[v, .func (.func 48) #[] #[.pointer (some ⟨B, 0, none⟩)]] w fun e w' => e = .returned (.bool (nameIn nm rs)) ∧ Below w.heap.size w w' := by
  have HR := Lib.hid hr
  clear hr
  go_enter Tryd.func47, Tryd.ntmps47
  go_wp2_with (go_at_call 74; refine (IndexFunc_any _ _ _ _ _ HR.out hn hc).mono ?_; rintro e w1 ⟨⟨r, rfl, hr⟩, hb1⟩)
  go_ret
  exact ⟨rfl, hb1⟩
structure SmallRs (rs : List Rule) : Prop where
  all : ∀ r ∈ rs, SmallR r
theorem SmallRs.at {rs : List Rule} (h : SmallRs rs) {k : Nat} {r : Rule} (hr : rs[k]? = some r) : SmallR r := by
  obtain ⟨hk, e⟩ := List.getElem?_eq_some_iff.1 hr
  exact h.all r (e ▸ List.getElem_mem hk)

set_option maxHeartbeats 1000000 in
theorem Check_any (v : Value) (rs : List Rule) (w : World) (hr : IsRules w v rs) (hs : SmallRs rs) (hn : rs.length ≤ 40000) :
    Calls Tryd.prog 22 #[v] w fun e w' => e = .returned (.int .i64 (checkErr rs)) ∧ Below w.heap.size w w' := by
  obtain ⟨a, cap, rfl, h1, h2⟩ := hr.val
  have HR := Lib.hid hr
  clear hr
  by_cases h100 : 100 < rs.length
  · have HF : Hid (checkErr rs = 4) := by show _ = _; unfold checkErr; rw [if_pos h100]
    go_enter Tryd.func22, Tryd.ntmps22
    go_wp2
    go_ret
    exact ⟨ret_int (by rw [HF.out]), qrefl _⟩
  have HC : Hid (checkErr rs = checkFrom [] rs) := by show _ = _; unfold checkErr; rw [if_neg h100]
  have hd100 : decide (100 < (rs.length : Int)) = false := by simp; omega
  go_enter Tryd.func22, Tryd.ntmps22
  go_wp2
  go_loopw [11] (fun i wr => ∃ k : Nat, k ≤ rs.length ∧ i = .int .i64 k ∧ Below w.heap.size w wr ∧ Hid (checkErr rs = checkFrom (rs.take k) (rs.drop k))) (fun i _ => rs.length - (intOf i).toNat)
  case atStart => exact ⟨0, Nat.zero_le _, rfl, qrefl _, HC⟩
  case round =>
    obtain ⟨k, hk, rfl, hb, HE⟩ := hrel
    by_cases hlt : k < rs.length
    · obtain ⟨r, hrk⟩ : ∃ r, rs[k]? = some r := ⟨_, List.getElem?_eq_getElem hlt⟩
      have HRr := Lib.hid (HR.out.below hb)
      obtain ⟨b, o, ad, cd, av, cv, rfl, hbb, c0, c1, c2, c3, sd, sv⟩ := HRr.out.elem hrk
      have HE2 := Lib.hid (HE.out.trans (checkFrom_at hrk))
      have HTK : Hid (IsRules wr (.slice (some ⟨b, o, none⟩) k cap) (rs.take k)) := HRr.out.take hk
      have hsr := hs.at hrk
      clear hrk
      have hq := qalloc wr (.cells #[.int .i64 r.kind, .string r.name, .slice ad r.deps.length cd, .slice av r.vis.length cv] 42)
      have HQ := Lib.hid hq
      have hcn : (wr.alloc (.cells #[.int .i64 r.kind, .string r.name, .slice ad r.deps.length cd, .slice av r.vis.length cv] 42)).cell? ⟨wr.heap.size, 1, none⟩ = some (.string r.name) := by simp [go_sem]
      have HCN := Lib.hid hcn
      clear hq hcn
      by_cases he : ruleErr r = 0
      · have he' : (ruleErr r != 0) = false := by simp [he]
        have HE3 : Hid (checkErr rs = if nameIn r.name (rs.take k) then 7 else checkFrom (rs.take (k + 1)) (rs.drop (k + 1))) := by show _ = _; rw [HE2.out, if_pos he]
        clear he
        go_wp2_with (go_at_call 46; refine (checkRule_any r _ _ _ (sd.out.below HQ.out) (sv.out.below HQ.out) hsr).mono ?_; rintro e w1 ⟨rfl, hb1⟩)
        have hB1 := qtrans HQ.out hb1
        refine (ContainsFunc_any _ _ _ _ _ (HTK.out.below hB1) (by rw [List.length_take]; omega) ((hb1.cell (p := ⟨wr.heap.size, 1, none⟩) (by simp)).trans HCN.out)).mono ?_
        rintro e w2 ⟨rfl, hb2⟩
        cases hni : nameIn r.name (rs.take k) with
        | true =>
          have HF : Hid (checkErr rs = 7) := by show _ = _; rw [HE3.out, hni]; rfl
          go_wp2
          go_ret
          exact ⟨ret_int (by rw [HF.out]), qtrans hb (qtrans hB1 hb2)⟩
        | false =>
          have HF : Hid (checkErr rs = checkFrom (rs.take (k + 1)) (rs.drop (k + 1))) := by show _ = _; rw [HE3.out, hni]; rfl
          go_wp2
          go_roundw
          case rel => exact ⟨k + 1, by omega, by go_num, qtrans hb (qtrans hB1 hb2), HF⟩
          case measure => simp [intOf]; omega
      · have he' : (ruleErr r != 0) = true := by simp [he]
        have HF : Hid (checkErr rs = ruleErr r) := by show _ = _; rw [HE2.out, if_neg he]
        clear he
        go_wp2_with (go_at_call 46; refine (checkRule_any r _ _ _ (sd.out.below HQ.out) (sv.out.below HQ.out) hsr).mono ?_; rintro e w1 ⟨rfl, hb1⟩)
        go_ret
        exact ⟨ret_int (by rw [HF.out]), qtrans hb (qtrans HQ.out hb1)⟩
    · have HF : Hid (checkErr rs = 0) := by
        show _ = _
        rw [HE.out, List.drop_eq_nil_of_le (by omega)]; rfl
      go_wp2
      go_ret
      exact ⟨ret_int (by rw [HF.out]), hb⟩
end Go.Proofs.YtgcmekpfhagnbaaDoor
