/- The chapter's example, reckoned; SameInts; the example's closures. -/
import Derived.Test.YtlcpdhionefmbaaGreatDoorT8
import Derived.Test.YtlcpdhionefmbaaGreatDoorT9
import Derived.Test.YtlcpdhionefmbaaGreatDoorSEr
namespace Go.Proofs.YtlcpdhionefmbaaGreatDoor
open Go.RowKit Go.Shelf
attribute [local go_sem] Oper.semAt_some

def fName : ByteArray := ⟨#[102]⟩
def gName : ByteArray := ⟨#[103]⟩
def nameD (s : ByteArray) : ODecl := ⟨3, 0, false, [s], false, exZ⟩
def bodyD (n : Int) : ODecl := ⟨3, 0, false, [], false, .mk 1 ⟨#[]⟩ ⟨#[]⟩ n 0 []⟩
def letD : ODecl := ⟨3, 1, false, [fName], false, nilX⟩
def aE : OEdit := ⟨7, aName, ⟨#[]⟩, [nameD fName], [nameD gName]⟩
def bE : OEdit := ⟨8, aName, ⟨#[]⟩, [bodyD 1], [bodyD 2]⟩
def cE : OEdit := ⟨5, aName, ⟨#[]⟩, [], [letD]⟩
theorem ab_swap : swapB aE bE = true := by kernel_rfl
theorem ca_swap : swapB cE aE = false := by kernel_rfl
theorem ca_check : checkErr [cE, aE] 1 = 0 := by kernel_rfl
theorem ca_needs : needsOf [cE, aE] 1 = [0] := by kernel_rfl
theorem smX_leaf (k n : Int) (hk : inI k) (hn : inI n) : SmX 40000 (.mk k ⟨#[]⟩ ⟨#[]⟩ n 0 []) := .mk (by decide) (by decide) hk hn ⟨by decide, by decide⟩ (fun y hy => by cases hy)
theorem nameD_sm (s : ByteArray) (h : s.size ≤ 40000) : SmD (nameD s) ∧ nodesN (nameD s).body ≤ 1000000 :=
  ⟨⟨fun x hx => by simp only [nameD, List.mem_singleton] at hx; subst hx; exact h, (by decide : 1 ≤ 1000000), smX_leaf 0 0 ⟨by decide, by decide⟩ ⟨by decide, by decide⟩, (by decide : 1 ≤ 4000000)⟩, (by decide : 1 ≤ 1000000)⟩
theorem bodyD_sm (n : Int) (h : inI n) : SmD (bodyD n) ∧ nodesN (bodyD n).body ≤ 1000000 :=
  ⟨⟨fun x hx => by simp [bodyD] at hx, (by decide : 0 ≤ 1000000), smX_leaf 1 n ⟨by decide, by decide⟩ h, (by decide : 1 ≤ 4000000)⟩, (by decide : 1 ≤ 1000000)⟩
theorem letD_sm : SmD letD ∧ nodesN letD.body ≤ 1000000 :=
  ⟨⟨fun x hx => by simp only [letD, List.mem_singleton] at hx; subst hx; decide, (by decide : 1 ≤ 1000000), smX_nilX, (by decide : 1 ≤ 4000000)⟩, (by decide : 1 ≤ 1000000)⟩
theorem aE_sm : SmE aE := ⟨(by decide : aName.size ≤ 40000), (by decide : ByteArray.size ⟨#[]⟩ ≤ 40000), fun d hd => by simp only [aE, List.mem_singleton] at hd; subst hd; exact nameD_sm _ (by decide), fun d hd => by simp only [aE, List.mem_singleton] at hd; subst hd; exact nameD_sm _ (by decide), (by decide : 1 ≤ 1000000), (by decide : 1 ≤ 1000000)⟩
theorem bE_sm : SmE bE := ⟨(by decide : aName.size ≤ 40000), (by decide : ByteArray.size ⟨#[]⟩ ≤ 40000), fun d hd => by simp only [bE, List.mem_singleton] at hd; subst hd; exact bodyD_sm _ ⟨by decide, by decide⟩, fun d hd => by simp only [bE, List.mem_singleton] at hd; subst hd; exact bodyD_sm _ ⟨by decide, by decide⟩, (by decide : 1 ≤ 1000000), (by decide : 1 ≤ 1000000)⟩
theorem cE_sm : SmE cE := ⟨(by decide : aName.size ≤ 40000), (by decide : ByteArray.size ⟨#[]⟩ ≤ 40000), fun d hd => by simp [cE] at hd, fun d hd => by simp only [cE, List.mem_singleton] at hd; subst hd; exact letD_sm, (by decide : 0 ≤ 1000000), (by decide : 1 ≤ 1000000)⟩
theorem noEdit_sm : SmE noEdit := ⟨(by decide : ByteArray.size ⟨#[]⟩ ≤ 40000), (by decide : ByteArray.size ⟨#[]⟩ ≤ 40000), fun d hd => by simp [noEdit] at hd, fun d hd => by simp [noEdit] at hd, (by decide : 0 ≤ 1000000), (by decide : 0 ≤ 1000000)⟩

/-! SameInts. -/
def sameIs : List Int → List Int → Bool
  | [], [] => true
  | a :: r, b :: s => a == b && sameIs r s
  | _, _ => false
theorem sameIs_iff : ∀ {l m : List Int}, sameIs l m = true ↔ l = m
  | [], [] => by simp [sameIs]
  | [], b :: s => by simp [sameIs]
  | a :: r, [] => by simp [sameIs]
  | a :: r, b :: s => by simp [sameIs, sameIs_iff]
theorem sameIs_len {l m : List Int} (h : l.length ≠ m.length) : sameIs l m = false := by
  cases e : sameIs l m with
  | false => rfl
  | true => exact absurd (congrArg List.length (sameIs_iff.1 e)) h
theorem sameIs_at {l m : List Int} {i : Nat} {x y : Int} (hx : l[i]? = some x) (hy : m[i]? = some y) : sameIs (l.drop i) (m.drop i) = (x == y && sameIs (l.drop (i + 1)) (m.drop (i + 1))) := by
  obtain ⟨h1, e1⟩ := List.getElem?_eq_some_iff.1 hx
  obtain ⟨h2, e2⟩ := List.getElem?_eq_some_iff.1 hy
  rw [List.drop_eq_getElem_cons h1, List.drop_eq_getElem_cons h2, sameIs, e1, e2]
theorem sameIs_end {l m : List Int} {i : Nat} (hl : l.length ≤ i) (hm : m.length ≤ i) : sameIs (l.drop i) (m.drop i) = true := by
  rw [List.drop_eq_nil_of_le hl, List.drop_eq_nil_of_le hm, sameIs]
theorem ints_elem {w : World} {v : Value} {l : List Int} (h : IntsR w v l) {i : Nat} {x : Int} (hi : l[i]? = some x) : ∃ b o c, v = .slice (some ⟨b, o, none⟩) l.length c ∧ b < w.heap.size ∧ w.cell? ⟨b, o + i, none⟩ = some (.int .i64 x) := by
  obtain ⟨_, a, c, rfl, _, _, h3⟩ := h
  obtain ⟨h1, h2⟩ := List.getElem?_eq_some_iff.1 hi
  obtain ⟨b, o, rfl, hb, hc⟩ := h3 (by omega)
  refine ⟨b, o, c, rfl, hb, hc i _ ?_⟩
  rw [List.getElem?_map, hi]; rfl
theorem ints_val {w : World} {v : Value} {l : List Int} (h : IntsR w v l) : ∃ a c, v = .slice a l.length c := by
  obtain ⟨_, a, c, rfl, _⟩ := h; exact ⟨a, c, rfl⟩
theorem IntsR.below {w w' : World} {v : Value} {l : List Int} (h : IntsR w v l) (m : Below w.heap.size w w') : IntsR w' v l := IsRow.below h m
set_option maxRecDepth 100000 in
set_option maxHeartbeats 4000000 in
theorem rSameInts_any (l m : List Int) (va vb : Value) (w : World) (hl : IntsR w va l) (hm : IntsR w vb m) (hn : l.length ≤ 1000000) (_hn2 : m.length ≤ 1000000) :
    Calls Tryz.prog 21 #[va, vb] w fun r w' => r = .returned (.bool (sameIs l m)) ∧ Below w.heap.size w w' := by
  have HL := Lib.hid hl
  have HM := Lib.hid hm
  obtain ⟨a, c, rfl⟩ := ints_val hl
  obtain ⟨b, d, rfl⟩ := ints_val hm
  have HE : Hid (sameIs l m = sameIs (l.drop 0) (m.drop 0)) := rfl
  have HLEN := Lib.hid (sameIs_len (l := l) (m := m))
  clear hl hm
  generalize sameIs l m = T at *
  by_cases hlen : l.length = m.length
  rotate_left
  · have q1 : ((l.length : Int) != (m.length : Int)) = true := bne_iff_ne.2 (by omega)
    have HF := Lib.hid (HLEN.out hlen)
    clear hlen HLEN
    go_enter Tryz.func21, Tryz.ntmps21
    go_wp2
    go_ret
    exact ⟨ret_bool HF.out.symm, qrefl _⟩
  have q1 : ((l.length : Int) != (m.length : Int)) = false := by rw [hlen]; simp
  have HLE := Lib.hid hlen
  clear hlen HLEN
  go_enter Tryz.func21, Tryz.ntmps21
  go_wp2
  go_loopw [5] (fun iv wr => ∃ i : Nat, i ≤ l.length ∧ iv = .int .i64 i ∧ Hid (T = sameIs (l.drop i) (m.drop i)) ∧ Below w.heap.size w wr) (fun iv _ => l.length - (intOf iv).toNat)
  case atStart => exact ⟨0, Nat.zero_le _, rfl, HE, qrefl _⟩
  case round =>
    obtain ⟨i, hil, rfl, HI, hb⟩ := hrel
    by_cases hi : i < l.length
    · have hd : decide ((i : Int) < (l.length : Int)) = true := decide_eq_true (by omega)
      have hi2 : i < m.length := by rw [← HLE.out]; exact hi
      have hir : (i : Int) < (l.length : Int) := by omega
      have hir2 : (i : Int) < (m.length : Int) := by omega
      obtain ⟨x, hx⟩ : ∃ x, l[i]? = some x := ⟨_, List.getElem?_eq_getElem hi⟩
      obtain ⟨y, hy⟩ : ∃ y, m[i]? = some y := ⟨_, List.getElem?_eq_getElem hi2⟩
      obtain ⟨b1, o1, c1, e1, hb1, x0⟩ := ints_elem (HL.out.below hb) hx
      obtain ⟨b2, o2, c2, e2, hb2, y0⟩ := ints_elem (HM.out.below hb) hy
      cases e1
      cases e2
      have HN := Lib.hid (HI.out.trans (sameIs_at hx hy))
      obtain ⟨r, er⟩ : ∃ r, (x == y) = r := ⟨_, rfl⟩
      have hne : (x != y) = !r := by rw [bne, er]
      rw [er] at HN
      have hdw : Below w.heap.size w wr.drew := hb.trans ((Mod.refl [] wr).drew.below.mono hb.size)
      clear hx hy HI er hi2
      go_upto_region 6 with (fail)
      go_cut [25] from 11 to 25 (fun v wx => v = .bool (!r) ∧ Below w.heap.size w wx)
      case first =>
        refine wp_region_noPanic ?_
        go_quiet (fail)
        refine NoPanic.normal ?_
        (try go_wp2)
        go_meet
        case rel => exact ⟨rfl, below_drewN hb _⟩
      case rest =>
      obtain ⟨rfl, hB4⟩ := hcut
      cases r with
      | true =>
        rw [Bool.true_and] at HN
        simp only [Bool.not_true]
        go_wp2
        go_roundw
        case rel => exact ⟨i + 1, by omega, by go_num, HN, hB4⟩
        case measure => simp [intOf]; omega
      | false =>
        rw [Bool.false_and] at HN
        simp only [Bool.not_false]
        go_wp2
        go_ret
        exact ⟨ret_bool HN.out.symm, hB4⟩
    · have hd : decide ((i : Int) < (l.length : Int)) = false := decide_eq_false (by omega)
      have HF : Hid (T = true) := by show _ = _; rw [HI.out, sameIs_end (by omega) (by rw [← HLE.out]; omega)]
      go_wp2
      go_ret
      exact ⟨ret_bool HF.out.symm, hb⟩

/-! The closures of the example. -/
theorem awakeName_any (s : ByteArray) (w : World) : Calls Tryz.prog 23 #[.string s] w fun r w' => ∃ a : Option Addr, r = .returned (.slice a 1 1) ∧ Reads w' [] (declsT [nameD s]) (.slice a 1 1) ∧ Below w.heap.size w w' := by
  have h1 := qalloc w (.cells #[.string s] 9)
  have hd : DeclIn (w.alloc (.cells #[.string s] 9)) (nameD s) (some ⟨w.heap.size, 0, none⟩) 1 none 0 := ⟨strs_text w s, nilRow_subs _, Nat.le_refl _, by decide, Nat.le_refl _, Nat.zero_le _⟩
  have HD := Lib.hid (reads_declOne hd)
  have hA := qtrans h1 (qalloc (w.alloc (.cells #[.string s] 9)) (.cells #[.int .i64 3, .int .i64 0, .bool false, .slice (some ⟨w.heap.size, 0, none⟩) 1 1, .bool false, .int .i64 0, .string ⟨#[]⟩, .string ⟨#[]⟩, .int .i64 0, .int .i64 0, .slice none 0 0] 50))
  have HA := Lib.hid hA
  clear hd h1 hA
  go_enter Tryz.func23, Tryz.ntmps23
  go_wp2
  go_ret
  exact ⟨some ⟨w.heap.size + 1, 0, none⟩, rfl, by have q := HD.out; rw [World.size_alloc] at q; exact q, HA.out⟩
theorem awakeBody_any (n : Int) (w : World) : Calls Tryz.prog 24 #[.int .i64 n] w fun r w' => ∃ a : Option Addr, r = .returned (.slice a 1 1) ∧ Reads w' [] (declsT [bodyD n]) (.slice a 1 1) ∧ Below w.heap.size w w' := by
  have hd : DeclIn w (bodyD n) none 0 none 0 := ⟨nilRow_strs w, nilRow_subs w, Nat.le_refl _, Nat.zero_le _, Nat.le_refl _, Nat.zero_le _⟩
  have HD := Lib.hid (reads_declOne hd)
  have HA := Lib.hid (qalloc w (.cells #[.int .i64 3, .int .i64 0, .bool false, .slice none 0 0, .bool false, .int .i64 1, .string ⟨#[]⟩, .string ⟨#[]⟩, .int .i64 n, .int .i64 0, .slice none 0 0] 50))
  clear hd
  go_enter Tryz.func24, Tryz.ntmps24
  go_wp2
  go_ret
  exact ⟨some ⟨w.heap.size, 0, none⟩, rfl, HD.out, HA.out⟩
end Go.Proofs.YtlcpdhionefmbaaGreatDoor
