/- The law BuildfilePrefixes: it returns true for every input. -/
import Derived.Test.YtgcmekpfhagnbaaDoorPlB
import Derived.Test.YtgcmekpfhagnbaaDoorAwA
namespace Go.Proofs.YtgcmekpfhagnbaaDoor
open Go.RowKit

def endS (j : Nat) : ByteArray := match j with | 0 => ⟨#[]⟩ | 1 => ⟨#[32, 59]⟩ | 2 => ⟨#[32, 122, 122, 32, 59]⟩ | _ => ⟨#[32, 108, 105, 98, 32, 122, 122, 32, 59]⟩
def catS (s : ByteArray) (k j : Nat) : ByteArray := s.extract 0 k ++ ⟨#[10]⟩ ++ endS j
theorem catS_data (s : ByteArray) (k j : Nat) : (catS s k j).data.toList = s.data.toList.take k ++ 10 :: endB j := by
  unfold catS
  have h : (endS j).data.toList = endB j := by
    match j with
    | 0 => rfl
    | 1 => rfl
    | 2 => rfl
    | (j + 3) => rfl
  simp [h]
theorem catS_size {s : ByteArray} (hs : s.size ≤ 400) (k j : Nat) : (catS s k j).size ≤ 1000 := by
  rw [← sz, catS_data, List.length_append, List.length_take, List.length_cons, sz]
  have : (endB j).length ≤ 9 := by unfold endB; split <;> simp
  omega
theorem endS_size (j : Nat) : (endS j).size ≤ 9 := by
  match j with
  | 0 => decide
  | 1 => decide
  | 2 => decide
  | (j + 3) => exact (by decide : (⟨#[32, 108, 105, 98, 32, 122, 122, 32, 59]⟩ : ByteArray).size ≤ 9)
def endCells : Array Value := #[.string ⟨#[]⟩, .string ⟨#[32, 59]⟩, .string ⟨#[32, 122, 122, 32, 59]⟩, .string ⟨#[32, 108, 105, 98, 32, 122, 122, 32, 59]⟩]
def EndsAt (w : World) (B : Nat) : Prop := w.heap[B]? = some (.cells endCells 9 (0, 0))
theorem EndsAt.below {w w' : World} {B : Nat} (h : EndsAt w B) (m : Below w.heap.size w w') : EndsAt w' B := (m.block B (Array.getElem?_eq_some_iff.1 h).1).trans h
theorem EndsAt.cell {w : World} {B : Nat} (h : EndsAt w B) {j : Nat} (hj : j < 4) : w.cell? ⟨B, j, none⟩ = some (.string (endS j)) := by
  have h' : w.heap[B]? = _ := h
  have hc : j = 0 ∨ j = 1 ∨ j = 2 ∨ j = 3 := by omega
  rcases hc with rfl | rfl | rfl | rfl <;> simp [World.cell?, h', endCells, endS]

set_option maxRecDepth 100000 in
set_option maxHeartbeats 4000000 in
theorem LPrefixes_any (s : ByteArray) (w : World) (hs : s.size ≤ 9223372036854775807) :
    Calls Tryd.prog 4 #[.string s] w fun e w' => e = .returned (.bool true) ∧ Below w.heap.size w w' := by
  by_cases h1 : 400 < s.size
  · go_enter Tryd.func4, Tryd.ntmps4
    go_wp2_with (go_at_call 11; refine (awake_any _).mono ?_; rintro e w1 ⟨rfl, hb1⟩)
    go_ret
    exact ⟨rfl, hb1⟩
  have HP := Lib.hid (fun W => Parse_any s (by omega) W)
  by_cases h3 : (parseR s).2.2 = 3
  · obtain ⟨k, hk, hat, j, hj, hno⟩ := prefix_law h3
    have HNO := Lib.hid (hno (catS s k j) (catS_data s k j))
    have HRK : Hid (∃ l, parseR s = (l, (k : Int), (3 : Int))) := ⟨(parseR s).1, by rw [← hat, ← h3]⟩
    have HPK : Hid (∀ i W, Calls Tryd.prog 12 #[.string (s.extract 0 k ++ ⟨#[10]⟩ ++ endS i)] W (ParsePost (parseR (catS s k i)) W)) := fun i W => Parse_any (catS s k i) (catS_size (by omega) k i) W
    clear h3 hat hno
    have h400 : s.size ≤ 400 := by omega
    have hd1 : decide (s.size < k) = false := decide_eq_false (by omega)
    have hd2 : decide ((k : Int) < 0) = false := decide_eq_false (by omega)
    have hd3 : decide ((400 : Int) < (s.size : Int)) = false := decide_eq_false (by omega)
    clear h1
    go_enter Tryd.func4, Tryd.ntmps4
    go_wp2_with (fail)
    refine (HP.out _).mono ?_
    obtain ⟨l, hl⟩ := HRK.out
    rw [hl]
    rintro e w1 ⟨v1, rfl, _, hb1⟩
    clear hl HRK HP
    go_wp2
    have hE : EndsAt (w1.alloc (.cells #[.string ⟨#[]⟩, .string ⟨#[32, 59]⟩, .string ⟨#[32, 122, 122, 32, 59]⟩, .string ⟨#[32, 108, 105, 98, 32, 122, 122, 32, 59]⟩] 9)) w1.heap.size := World.alloc_heap_new _ _
    have hB := qtrans hb1 (qalloc w1 (.cells #[.string ⟨#[]⟩, .string ⟨#[32, 59]⟩, .string ⟨#[32, 122, 122, 32, 59]⟩, .string ⟨#[32, 108, 105, 98, 32, 122, 122, 32, 59]⟩] 9))
    generalize w1.alloc (.cells #[.string ⟨#[]⟩, .string ⟨#[32, 59]⟩, .string ⟨#[32, 122, 122, 32, 59]⟩, .string ⟨#[32, 108, 105, 98, 32, 122, 122, 32, 59]⟩] 9) = W0 at *
    generalize w1.heap.size = B at *
    have HE := Lib.hid hE
    clear hE hb1
    go_loopw [34] (fun iv wr => ∃ i : Nat, i ≤ 4 ∧ iv = .int .i64 i ∧ Below w.heap.size w wr ∧ Hid (EndsAt wr B) ∧ Hid (∀ q, q < i → (parseR (catS s k q)).2.2 = 3)) (fun iv _ => 4 - (intOf iv).toNat)
    case atStart => exact ⟨0, by omega, rfl, hB, HE, fun q hq => by omega⟩
    case round =>
      obtain ⟨i, hi, rfl, hb, HEr, HQ⟩ := hrel
      clear HE hB
      clear W0
      by_cases hi4 : i < 4
      · have hcell := HEr.out.cell hi4
        by_cases h3 : (parseR (catS s k i)).2.2 = 3
        · have HQ2 : Hid (∀ q, q < i + 1 → (parseR (catS s k q)).2.2 = 3) := fun q hq => by
            by_cases e : q = i
            · rw [e]; exact h3
            · exact HQ.out q (by omega)
          have hne : ((parseR (catS s k i)).2.2 != 3) = false := by simp [h3]
          clear h3
          have HPi := Lib.hid (fun W => HPK.out i W)
          generalize parseR (catS s k i) = x at hne HPi
          have hes : (endS i).size ≤ 9 := endS_size i
          generalize endS i = es at hcell HPi hes
          obtain ⟨xl, xp, xc⟩ := x
          simp only at hne
          go_wp2_with (fail)
          refine (HPi.out _).mono ?_
          rintro e w2 ⟨v2, rfl, _, hb2⟩
          have HE2 := Lib.hid (HEr.out.below hb2)
          have hB2 := qtrans hb hb2
          clear HEr hcell
          go_wp2
          go_roundw
          case rel => exact ⟨i + 1, by omega, by go_num, hB2, HE2, HQ2⟩
          case measure => simp [intOf]; omega
        · have hne : ((parseR (catS s k i)).2.2 != 3) = true := by simp [h3]
          clear h3
          have HPi := Lib.hid (fun W => HPK.out i W)
          generalize parseR (catS s k i) = x at hne HPi
          have hes : (endS i).size ≤ 9 := endS_size i
          generalize endS i = es at hcell HPi hes
          obtain ⟨xl, xp, xc⟩ := x
          simp only at hne
          go_wp2_with (fail)
          refine (HPi.out _).mono ?_
          rintro e w2 ⟨v2, rfl, _, hb2⟩
          have hB2 := qtrans hb hb2
          clear HEr hcell
          go_wp2_with (go_at_call 11; refine (awake_any _).mono ?_; rintro e w3 ⟨rfl, hb3⟩)
          go_ret
          exact ⟨rfl, qtrans hB2 hb3⟩
      · exact absurd (HQ.out j (by omega)) HNO.out
  · have hne : ((parseR s).2.2 != 3) = true := by simp [h3]
    clear h3
    generalize parseR s = x at hne HP
    obtain ⟨xl, xp, xc⟩ := x
    simp only at hne
    go_enter Tryd.func4, Tryd.ntmps4
    go_wp2_with (fail)
    refine (HP.out _).mono ?_
    rintro e w1 ⟨v1, rfl, _, hb1⟩
    clear HP
    go_wp2_with (go_at_call 11; refine (awake_any _).mono ?_; rintro e w2 ⟨rfl, hb2⟩)
    go_ret
    exact ⟨rfl, qtrans hb1 hb2⟩
end Go.Proofs.YtgcmekpfhagnbaaDoor
