/- approval.rulesOnly, approval.examine. -/
import Derived.Test.YtidkpnabdfiilaaGreatDoorDfA
namespace Go.Proofs.YtidkpnabdfiilaaGreatDoor
open Go.RowKit

/-! The files that decide, by the ends of their paths. -/
theorem own_short {p : List UInt8} (h : p.length < 6) : isOwn p = false := by
  unfold isOwn sufOf
  rw [Bool.or_eq_false_iff]
  refine ⟨?_, ?_⟩
  · rw [beq_eq_false_iff_ne]; rintro rfl; simp [wOwners] at h
  · rw [decide_eq_false (by simp [wSlOwners]; omega)]; rfl
theorem own_tail {p : List UInt8} (h : 6 ≤ p.length) : isOwn p = ((p.drop (p.length - 6) == wOwners) && (decide (p.length = 6) || p.getD (p.length - 7) 0 == 47)) := by
  unfold isOwn sufOf
  by_cases h6 : p.length = 6
  · rw [decide_eq_false (by simp [wSlOwners]; omega), h6]; simp
  · have h7 : 7 ≤ p.length := by omega
    have hne : (p == wOwners) = false := by rw [beq_eq_false_iff_ne]; rintro rfl; simp [wOwners] at h6
    have e : p.drop (p.length - wSlOwners.length) = p.getD (p.length - 7) 0 :: p.drop (p.length - 6) := by
      have : wSlOwners.length = 7 := rfl
      rw [this, List.drop_eq_getElem_cons (by omega), List.getD_eq_getElem?_getD, List.getElem?_eq_getElem (by omega), show p.length - 7 + 1 = p.length - 6 by omega]
      rfl
    rw [hne, e, decide_eq_true (by simp [wSlOwners]; omega), decide_eq_false h6, Bool.false_or, Bool.true_and, Bool.false_or]
    generalize p.getD (p.length - 7) 0 = c
    generalize p.drop (p.length - 6) = r
    rw [Bool.eq_iff_iff, beq_iff_eq, Bool.and_eq_true, beq_iff_eq, beq_iff_eq]
    constructor
    · intro h; unfold wSlOwners at h; injection h with h1 h2; exact ⟨h2, h1⟩
    · rintro ⟨h1, h2⟩; rw [h1, h2]; rfl
theorem filter_at {p : OFile → Bool} {fs : List OFile} {k : Nat} {f : OFile} (h : fs[k]? = some f) : (fs.take (k + 1)).filter p = (fs.take k).filter p ++ (if p f then [f] else []) := by
  rw [take_at h, List.filter_append, List.filter_cons]; rfl
set_option maxRecDepth 100000 in
set_option maxHeartbeats 2000000 in
theorem rulesOnly_any (v : Value) (fs : List OFile) (w : World) (hv : Reads w [] (filesT fs) v) (hs : SmallF fs) :
    Calls Tryz.prog 94 #[v] w fun e w' => ∃ rv, e = .returned rv ∧ OwnF w' w.heap.size rv (fs.filter ownF) ∧ Below w.heap.size w w' := by
  obtain ⟨a, cap, rfl, hc1, hc2⟩ := files_val hv
  obtain ⟨i0, hi, hz0, hz1, hz2⟩ := info_parts infoFile
  have HV := Lib.hid hv
  have HS := Lib.hid hs
  have hlen := hs.len
  clear hv hs
  go_enter Tryz.func94, Tryz.ntmps94
  go_wp2
  go_loopw [3, 9] (fun ov iv wr => ∃ k : Nat, k ≤ fs.length ∧ iv = .int .i64 k ∧ OwnF wr w.heap.size ov ((fs.take k).filter ownF) ∧ Below w.heap.size w wr) (fun _ iv _ => fs.length - (intOf iv).toNat)
  case atStart => exact ⟨0, Nat.zero_le _, rfl, World.ownsRow_nil _ _ _ _, qrefl _⟩
  case round =>
    obtain ⟨k, hk, rfl, hown, hbel⟩ := hrel
    by_cases hkl : k < fs.length
    · obtain ⟨f, hf⟩ : ∃ f, fs[k]? = some f := ⟨_, List.getElem?_eq_getElem hkl⟩
      obtain ⟨b1, o1, rfl, hb1, hp1, hq1⟩ := files_elem (HV.out.below hbel) hf
      have hk0 : (0 : Int) ≤ (k : Int) := by omega
      have hk1 : (k : Int) < (fs.length : Int) := by omega
      have HF := Lib.hid (filter_at (p := ownF) hf)
      have hsz := (HS.out.each f (List.mem_of_getElem? hf)).1
      have hfl : ((fs.take k).filter ownF).length ≤ 40000 := by have := List.length_filter_le ownF (fs.take k); rw [List.length_take] at this; omega
      have hbz := hbel.size
      clear hf
      generalize (fs.take k).filter ownF = pre at *
      by_cases h6 : f.path.size < 6
      · have HO : Hid (ownF f = false) := own_short (by rw [sz]; exact h6)
        have hw : IntKind.i64.wrap ((f.path.size : Int) - 6) = (f.path.size : Int) - 6 := IntWalk.i64_in _ (by omega)
        have hd : decide (0 ≤ (f.path.size : Int) - 6) = false := decide_eq_false (by omega)
        have HN : Hid ((fs.take (k + 1)).filter ownF = pre) := by show _ = _; rw [HF.out, HO.out]; simp
        go_wp2
        go_roundw
        case rel => exact ⟨k + 1, by omega, by go_num, by rw [HN.out]; exact hown.below (qalloc _ _), qtrans hbel (qalloc _ _)⟩
        case measure => simp [intOf]; omega
      · obtain ⟨n, hna, hnb⟩ : ∃ n, f.path.size ≤ n + 6 ∧ n + 6 ≤ f.path.size := ⟨f.path.size - 6, by omega, by omega⟩
        have hw : IntKind.i64.wrap ((f.path.size : Int) - 6) = (n : Int) := by rw [show (f.path.size : Int) - 6 = (n : Int) by omega]; exact IntWalk.i64_in _ (by omega)
        have hn0 : (0 : Int) ≤ (n : Int) := by omega
        have hn1 : (n : Int) ≤ (f.path.size : Int) := by omega
        have hdn : decide (0 ≤ (n : Int)) = true := decide_eq_true hn0
        have HO : Hid (ownF f = (((f.path.extract n f.path.size).toList == [79, 87, 78, 69, 82, 83]) && (decide (f.path.size = 6) || f.path.data.toList.getD (f.path.size - 7) 0 == 47))) := by
          show _ = _
          rw [ownF, own_tail (by rw [sz]; omega), sz, tl, ex_end, show f.path.size - 6 = n by omega]; rfl
        cases ht : ((f.path.extract n f.path.size).toList == [79, 87, 78, 69, 82, 83]) with
        | false =>
          have HN : Hid ((fs.take (k + 1)).filter ownF = pre) := by show _ = _; rw [HF.out, HO.out, ht]; simp
          go_wp2
          go_roundw
          case rel => exact ⟨k + 1, by omega, by go_num, by rw [HN.out]; exact hown.below (qalloc _ _), qtrans hbel (qalloc _ _)⟩
          case measure => simp [intOf]; omega
        | true =>
          rw [ht, Bool.true_and] at HO
          have fin : Hid (ownF f = true) → Hid ((fs.take (k + 1)).filter ownF = pre ++ [f]) := fun h => by show _ = _; rw [HF.out, h.out]; simp
          by_cases hs6 : n = 0
          · have HN := fin (by show _ = _; rw [HO.out, decide_eq_true (by omega)]; rfl)
            subst hs6
            have hw' : IntKind.i64.wrap ((f.path.size : Int) - 6) = 0 := hw
            have ht2 : (f.path.toList == [79, 87, 78, 69, 82, 83]) = true := by
              have e : f.path.extract 0 f.path.size = f.path := bytes_eq (by rw [ex_end]; rfl)
              rwa [e] at ht
            clear fin HO HF hw
            go_wp2_with (at_builtin; refine wpList_append_own _ rfl _ _ 22 rfl w.heap.size 55 i0 _ 2 32 Tryz.underlying22 hi hz0 hz1 hz2 rfl (by decide) _ _ _ rfl ((hown.alloc _).alloc _) ⟨wr.heap.size + 1, 0, none⟩ 1 1 [.string f.path, .string f.data] rfl rfl (cell_two' _ _ _ _ (by simp)) (by simp [Value.oneCell']) (by unfold maxLen; omega) (by omega) (by simp; omega) ?_)
            intro v3 w3 hown3 hg3 _
            have hb3 : Below w.heap.size w w3 := (qtrans (qtrans hbel (qalloc _ _)) (qalloc _ _)).grown hg3 (by simp; omega) (fun k hk => owns_block hown hk)
            have hs3 : OwnF w3 w.heap.size v3 (pre ++ [f]) := by unfold OwnF; rw [List.length_append, fileCells_snoc]; exact hown3
            clear hg3 hown3 hown
            rw [← HN.out] at hs3
            go_wp2
            go_roundw
            case rel => exact ⟨k + 1, by omega, by go_num, hs3, hb3⟩
            case measure => simp [intOf]; omega
          · obtain ⟨m, rfl⟩ : ∃ m, n = m + 1 := ⟨n - 1, by omega⟩
            have hne : (((m + 1 : Nat) : Int) == 0) = false := by rw [beq_eq_false_iff_ne]; omega
            have hne2 : ((m : Int) + 1 == 0) = false := by rw [beq_eq_false_iff_ne]; omega
            have hw1 : IntKind.i64.wrap ((m : Int) + 1 - 1) = (m : Int) := by rw [Int.add_sub_cancel]; exact IntWalk.i64_in _ (by omega)
            have hml : m < f.path.size := by omega
            have hm0 : (0 : Int) ≤ (m : Int) := by omega
            have hm1 : (m : Int) < (f.path.size : Int) := by omega
            have HB : Hid (ownF f = (f.path[m] == 47)) := by
              show _ = _; rw [HO.out, decide_eq_false (by omega), Bool.false_or, show f.path.size - 7 = m by omega, getD_at f.path m hml]
            cases hc : (f.path[m] == 47) with
            | true =>
              have hcb : ((f.path[m].toNat : Int) == 47) = true := (byteN _ 47).trans hc
              have HN := fin (by show _ = _; rw [HB.out, hc])
              clear fin HO HF HB hc
              go_wp2_with (at_builtin; refine wpList_append_own _ rfl _ _ 22 rfl w.heap.size 55 i0 _ 2 32 Tryz.underlying22 hi hz0 hz1 hz2 rfl (by decide) _ _ _ rfl ((hown.alloc _).alloc _) ⟨wr.heap.size + 1, 0, none⟩ 1 1 [.string f.path, .string f.data] rfl rfl (cell_two' _ _ _ _ (by simp)) (by simp [Value.oneCell']) (by unfold maxLen; omega) (by omega) (by simp; omega) ?_)
              intro v3 w3 hown3 hg3 _
              have hb3 : Below w.heap.size w w3 := (qtrans (qtrans hbel (qalloc _ _)) (qalloc _ _)).grown hg3 (by simp; omega) (fun k hk => owns_block hown hk)
              have hs3 : OwnF w3 w.heap.size v3 (pre ++ [f]) := by unfold OwnF; rw [List.length_append, fileCells_snoc]; exact hown3
              clear hg3 hown3 hown
              rw [← HN.out] at hs3
              go_wp2
              go_roundw
              case rel => exact ⟨k + 1, by omega, by go_num, hs3, hb3⟩
              case measure => simp [intOf]; omega
            | false =>
              have hcb : ((f.path[m].toNat : Int) == 47) = false := (byteN _ 47).trans hc
              have HN : Hid ((fs.take (k + 1)).filter ownF = pre) := by show _ = _; rw [HF.out, HB.out, hc]; simp
              clear fin HO HF HB hc
              go_wp2
              go_roundw
              case rel => exact ⟨k + 1, by omega, by go_num, by rw [HN.out]; exact hown.below (qalloc _ _), qtrans hbel (qalloc _ _)⟩
              case measure => simp [intOf]; omega
    · have hkl' : k = fs.length := by omega
      subst hkl'
      rw [List.take_length] at hown
      go_wp2
      go_ret
      exact ⟨_, rfl, hown, hbel⟩
/-! The changes with the groups that own them. -/
abbrev OwnedC : Type := FChg × List (List ByteArray)
def ownedT (x : OwnedC) : List Tree := chgT x.1 ++ [groupsT x.2]
def ownedsT (l : List OwnedC) : Tree := rowT 6 ownedT l
def examL (old fresh : List OFile) : List OwnedC := (diffC old fresh).map fun c => (c, ownersM (rulesM old) c.path)
def examineOf (old fresh : List OFile) : List OwnedC × Int := if treesErr old fresh = 0 then (examL old fresh, 0) else ([], treesErr old fresh)
theorem owneds_val {w : World} {X : List Nat} {l : List OwnedC} {v : Value} (h : Reads w X (ownedsT l) v) : ∃ (a : Option Addr) (cap : Nat), v = .slice a l.length cap ∧ l.length ≤ cap ∧ cap ≤ 9223372036854775807 := h.val
theorem owneds_elem {w : World} {X : List Nat} {l : List OwnedC} {a : Option Addr} {cap : Nat} (h : Reads w X (ownedsT l) (.slice a l.length cap)) {i : Nat} {x : OwnedC} (hi : l[i]? = some x) :
    ∃ (b o : Nat) (ag : Option Addr) (cg : Nat), a = some ⟨b, o, none⟩ ∧ b < w.heap.size ∧ (w.cell? ⟨b, o + i * 6, none⟩ = some (.string x.1.path) ∧ w.cell? ⟨b, o + i * 6 + 1, none⟩ = some (.bool x.1.hasOld) ∧ w.cell? ⟨b, o + i * 6 + 2, none⟩ = some (.bool x.1.hasNew) ∧ w.cell? ⟨b, o + i * 6 + 3, none⟩ = some (.string x.1.old) ∧ w.cell? ⟨b, o + i * 6 + 4, none⟩ = some (.string x.1.fresh) ∧ w.cell? ⟨b, o + i * 6 + 5, none⟩ = some (.slice ag x.2.length cg)) ∧ x.2.length ≤ cg ∧ cg ≤ 9223372036854775807 ∧ Hid (Reads w X (groupsT x.2) (.slice ag x.2.length cg)) := by
  obtain ⟨b, o, rfl, hb, hc⟩ := Reads.elem (f := ownedT) (fun _ => rfl) h hi
  obtain ⟨u0, e0, d0⟩ := hc 0 _ rfl
  obtain ⟨u1, e1, d1⟩ := hc 1 _ rfl
  obtain ⟨u2, e2, d2⟩ := hc 2 _ rfl
  obtain ⟨u3, e3, d3⟩ := hc 3 _ rfl
  obtain ⟨u4, e4, d4⟩ := hc 4 _ rfl
  obtain ⟨u5, e5, d5⟩ := hc 5 _ rfl
  rw [Reads.leafv d0] at e0
  rw [Reads.leafv d1] at e1
  rw [Reads.leafv d2] at e2
  rw [Reads.leafv d3] at e3
  rw [Reads.leafv d4] at e4
  obtain ⟨ag, cg, rfl, g1, g2⟩ := groups_val d5
  exact ⟨b, o, ag, cg, rfl, hb, ⟨e0, e1, e2, e3, e4, e5⟩, g1, g2, d5⟩
theorem infoOwned : (Tryz.prog.info? 149).map (fun i => (i.zero, i.size, i.bytes)) = some (some (.agg #[.string ⟨#[]⟩, .bool false, .bool false, .string ⟨#[]⟩, .string ⟨#[]⟩, .slice none 0 0]), 6, 80) := by kernel_rfl
theorem cell_six (w : World) (x y z u v s : Value) (t : TypeId) {B : Nat} (hB : w.heap.size = B) : ∀ j q, [x, y, z, u, v, s][j]? = some q → (w.alloc (.cells #[x, y, z, u, v, s] t)).cell? ((⟨B, 0, none⟩ : Addr).add j) = some q := by
  subst hB
  intro j q h
  have hB := CBox.new w t #[x, y, z, u, v, s]
  match j, h with
  | 0, h => cases h; exact hB.cell (i := 0) rfl
  | 1, h => cases h; exact hB.cell (i := 1) rfl
  | 2, h => cases h; exact hB.cell (i := 2) rfl
  | 3, h => cases h; exact hB.cell (i := 3) rfl
  | 4, h => cases h; exact hB.cell (i := 4) rfl
  | 5, h => cases h; exact hB.cell (i := 5) rfl
  | (j + 6), h => cases h
end Go.Proofs.YtidkpnabdfiilaaGreatDoor
