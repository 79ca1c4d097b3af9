/- Words in memory; slices that the call owns. No program in sight. The reference's words. Slices that the call owns and whose cells hold data; boxes of cells. No program in sight. -/
import Derived.Test.YtidkpnabdfiilaaGreatDoorQ02
import Derived.Test.YtidkpnabdfiilaaGreatDoorQ01
import Derived.Maps.AppendAt
import Derived.OwnWalk
import Derived.Test.YtidkpnabdfiilaaGreatDoorQ04
namespace Go.Proofs.YtidkpnabdfiilaaGreatDoor
open Go.RowKit

def wordArg (x : ByteArray × Nat) : Array Value := #[.agg #[.string x.1, .int .i64 x.2]]
def wordArgs (s : ByteArray) : List (Array Value) := (wordsOf s).map wordArg

theorem toks_at (s : ByteArray) (f : Nat) {i : Nat} (h : i < s.size) : toks s (f + 1) i =
    if isSp s[i] then toks s f (i + 1) else if s[i] = 35 then toks s f (stopAt isNl s.data.toList i)
    else (s.extract i (stopAt isSp s.data.toList i), i) :: toks s f (stopAt isSp s.data.toList i) := by
  rw [toks, if_pos h, getD_at s i h]
def wordCells (ws : List (ByteArray × Nat)) : List Value := ws.flatMap fun x => [.string x.1, .int .i64 x.2]
theorem wordCells_len (ws : List (ByteArray × Nat)) : (wordCells ws).length = ws.length * 2 := by
  induction ws with
  | nil => rfl
  | cons a r ih =>
    have : wordCells (a :: r) = [.string a.1, .int .i64 a.2] ++ wordCells r := rfl
    rw [this, List.length_append, ih, List.length_cons, List.length_cons, List.length_cons, List.length_nil]; omega
theorem wordCells_snoc (ws : List (ByteArray × Nat)) (x : ByteArray × Nat) : wordCells (ws ++ [x]) = wordCells ws ++ [.string x.1, .int .i64 x.2] := by simp [wordCells]
theorem cell_two (w : World) (x y : Value) (t : TypeId) : ∀ j u, [x, y][j]? = some u → (w.alloc (.cells #[x, y] t)).cell? ((⟨w.heap.size, 0, none⟩ : Addr).add j) = some u := by
  intro j u hj
  match j, hj with
  | 0, hj => simp at hj; subst hj; simp [Addr.add]
  | 1, hj => simp at hj; subst hj; simp [Addr.add]
  | (j + 2), hj => simp at hj
theorem wordArgs_len (s : ByteArray) : (wordArgs s).length = (wordsOf s).length := by simp [wordArgs]
theorem wordArgs_get {s : ByteArray} {k : Nat} (hk : k < (wordArgs s).length) : ∃ x, (wordsOf s)[k]? = some x ∧ (wordArgs s)[k] = wordArg x := by
  have hk' : k < (wordsOf s).length := by rw [← wordArgs_len]; exact hk
  have h : (wordArgs s)[k]? = some (wordArg (wordsOf s)[k]) := by unfold wordArgs; rw [List.getElem?_map, List.getElem?_eq_getElem hk']; rfl
  exact ⟨(wordsOf s)[k], List.getElem?_eq_getElem hk', (List.getElem?_eq_some_iff.1 h).2⟩
theorem take_at {α : Type} {l : List α} {k : Nat} {x : α} (h : l[k]? = some x) : l.take (k + 1) = l.take k ++ [x] := by
  obtain ⟨hk, e⟩ := List.getElem?_eq_some_iff.1 h
  rw [List.take_succ_eq_append_getElem hk, e]

theorem owns_block {w : World} {base : Nat} {e : TypeId} {size : Nat} {v : Value} {n : Nat} {xs : List Value} (h : w.ownsRow base e size v n xs) {b : Nat} (hb : v.ownBlock = some b) : base ≤ b := by
  rcases h.2 with ⟨rfl, _⟩ | ⟨g, cap, cur, rfl, hg, _⟩
  · cases hb
  · cases hb; exact hg
theorem owns_row {w : World} {base : Nat} {e : TypeId} {size : Nat} {v : Value} {n : Nat} {xs : List Value} (h : w.ownsRow base e size v n xs) : IsRow w size v n xs := by
  obtain ⟨h1, h2⟩ := h
  rcases h2 with ⟨rfl, rfl⟩ | ⟨g, cap, cur, rfl, hg, hh, hn, hc, hs, ht⟩
  · exact ⟨h1, none, 0, rfl, Nat.le_refl _, Nat.zero_le _, fun h => absurd h (Nat.lt_irrefl _)⟩
  · refine ⟨h1, _, cap, rfl, hn, hc, fun _ => ⟨g, 0, rfl, (Array.getElem?_eq_some_iff.1 hh).1, fun j u hj => ?_⟩⟩
    rw [← ht, List.getElem?_take] at hj
    split at hj
    · simp only [World.cell?, hh, Nat.zero_add, Option.isSome_none, Bool.false_eq_true, if_false]
      rw [← Array.getElem?_toList]; exact hj
    · cases hj
/-- An append by the law's words: what lay below the base is as it was. -/
theorem mod_grown {X : List Nat} {w w1 w2 : World} {base : Nat} {e : TypeId} {size : Nat} {v : Value} {n : Nat} {xs : List Value} (m : Mod X w w1) (h : w1.ownsRow base e size v n xs) (hb : w.heap.size ≤ base) (g : w1.grownBy w2 v.ownBlock) : Mod X w w2 :=
  m.trans' g (fun _ hk => Nat.le_trans hb (owns_block h hk))

theorem owns_type {w : World} {base : Nat} {e : TypeId} {size : Nat} {v : Value} {n : Nat} {xs : List Value} (h : w.ownsRow base e size v n xs) : ∀ b, v.ownBlock = some b → ∃ cur m, w.heap[b]? = some (.cells cur e m) := fun b hb => by
  rcases h.2 with ⟨rfl, _⟩ | ⟨g', cap, cur, rfl, h1, hh, _⟩
  · cases hb
  · cases hb; exact ⟨cur, _, hh⟩
theorem owns_val {w : World} {base : Nat} {e : TypeId} {size : Nat} {v : Value} {n : Nat} {xs : List Value} (h : w.ownsRow base e size v n xs) : ∃ a cap, v = .slice a n cap := by
  obtain ⟨_, a, cap, e, _⟩ := owns_row h; exact ⟨a, cap, e⟩
theorem mod_of_grown {w w' : World} {row : Option Nat} (g : w.grownBy w' row) : Mod row.toList w w' :=
  ⟨g.os, g.tape, g.output, g.size, fun k hk hx => g.block k hk (fun e => hx (by rw [← e]; simp))⟩
abbrev Words := List (ByteArray × Nat)
def IsWords (w : World) (v : Value) (ws : Words) : Prop := IsRow w 2 v ws.length (wordCells ws)
end Go.Proofs.YtidkpnabdfiilaaGreatDoor

namespace Go.Proofs.YtidkpnabdfiilaaGreatDoor
open Go.RowKit

theorem infoWord2 : (Tryz.prog.info? 176).map (fun i => (i.zero, i.size, i.bytes)) = some (some (.agg #[.string ⟨#[]⟩, .int .i64 0]), 2, 24) := by kernel_rfl
set_option maxRecDepth 100000 in
set_option maxHeartbeats 2000000 in
theorem rwords_any (s : ByteArray) (hs : s.size ≤ 40000) (w : World) :
    Calls Tryz.prog 128 #[.string s] w fun e w' => ∃ v, e = .returned v ∧ IsWords w' v (wordsOf s) ∧ (∀ b, v.ownBlock = some b → ∃ cur m, w'.heap[b]? = some (.cells cur 176 m)) ∧ Below w.heap.size w w' := by
  have hlen := wordsOf_length s
  obtain ⟨i0, hi, hz0, hz1, hz2⟩ := info_parts infoWord2
  go_enter Tryz.func128, Tryz.ntmps128
  go_wp2
  go_loopw [3, 4] (fun ov iv wr => ∃ (pre : Words) (f i : Nat), i ≤ s.size ∧ s.size ≤ i + f ∧ iv = .int .i64 i ∧ wr.ownsRow w.heap.size 176 2 ov pre.length (wordCells pre) ∧ Below w.heap.size w wr ∧ Hid (wordsOf s = pre ++ toks s f i))
    (fun _ iv _ => s.size - (intOf iv).toNat)
  case atStart => exact ⟨[], s.size, 0, Nat.zero_le _, by omega, rfl, ⟨rfl, .inr ⟨w.heap.size, 0, #[], rfl, Nat.le_refl _, World.alloc_heap_new _ _, Nat.le_refl _, Nat.zero_le _, rfl, rfl⟩⟩, qalloc _ _, rfl⟩
  case round =>
    obtain ⟨pre, f, i, hil, hf, rfl, hown, hbel, HD⟩ := hrel
    by_cases hlt : i < s.size
    · obtain ⟨f, rfl⟩ : ∃ f', f = f' + 1 := ⟨f - 1, by omega⟩
      have HS := Lib.hid (toks_at s f hlt)
      have hpl : pre.length ≤ 40000 := by
        have := congrArg List.length HD.out
        rw [List.length_append] at this
        omega
      cases h32 : (s[i] == 32) with
      | true =>
        have t32 : ((s[i].toNat : Int) != 32) = false := byteNeT (d := 32) h32
        have HD2 : Hid (wordsOf s = pre ++ toks s f (i + 1)) := by
          show _ = _; rw [HD.out, HS.out, isSp, h32]; rfl
        clear h32
        go_wp2
        go_loop [4] (fun v => v = .int .i64 i) (fun _ => 0)
        case atStart => rfl
        case round =>
          obtain rfl := hrel
          go_wp2
          go_roundw
          case rel => exact ⟨pre, f, i + 1, by omega, by omega, by go_num, hown, hbel, HD2⟩
          case measure => simp [intOf]; omega
      | false =>
        have t32 : ((s[i].toNat : Int) != 32) = true := byteNeT (d := 32) h32
        cases h10 : (s[i] == 10) with
        | true =>
          have t10 : ((s[i].toNat : Int) != 10) = false := byteNeT (d := 10) h10
          have HD2 : Hid (wordsOf s = pre ++ toks s f (i + 1)) := by
            show _ = _; rw [HD.out, HS.out, isSp, h10]; simp
          clear h32 h10
          go_wp2
          go_loop [4] (fun v => v = .int .i64 i) (fun _ => 0)
          case atStart => rfl
          case round =>
            obtain rfl := hrel
            go_wp2
            go_roundw
            case rel => exact ⟨pre, f, i + 1, by omega, by omega, by go_num, hown, hbel, HD2⟩
            case measure => simp [intOf]; omega
        | false =>
          have t10 : ((s[i].toNat : Int) != 10) = true := byteNeT (d := 10) h10
          cases h35 : (s[i] == 35) with
          | true =>
            have t35 : ((s[i].toNat : Int) != 35) = false := byteNeT (d := 35) h35
            have HD2 : Hid (wordsOf s = pre ++ toks s f (stopAt isNl s.data.toList i)) := by
              show _ = _; rw [HD.out, HS.out, isSp, h10, h32, if_neg (by simp), if_pos (by simpa using h35)]
            have hst : i + 1 ≤ stopAt isNl s.data.toList i := stopAt_next (stopAt_ge _ _ _) (by rw [sz]; exact hlt) (by rw [getD_at s i hlt]; exact h10)
            have hsl : stopAt isNl s.data.toList i ≤ s.size := by rw [← sz]; exact stopAt_le _ (by rw [sz]; omega)
            clear h32 h10 h35
            go_wp2
            go_loop [4] (fun v => ∃ n : Nat, i ≤ n ∧ n ≤ i + 1 ∧ v = .int .i64 n) (fun v => i + 1 - (intOf v).toNat)
            case atStart => exact ⟨i, Nat.le_refl _, by omega, rfl⟩
            case round =>
              obtain ⟨n, hn1, hn2, rfl⟩ := hrel
              by_cases hni : n = i
              · subst hni
                have hii : ((n : Int) == (n : Int)) = true := by simp
                go_wp2
                go_round
                case rel => exact ⟨n + 1, by omega, by omega, by go_num⟩
                case measure => simp [intOf]
              · have hne : ((n : Int) == (i : Int)) = false := by rw [beq_eq_false_iff_ne]; omega
                have hn3 : n ≤ s.size := by omega
                have tests : (¬ n < s.size) ∨ (∃ h : n < s.size, ((s[n].toNat : Int) != 32) = false) ∨ (∃ h : n < s.size, ((s[n].toNat : Int) != 32) = true ∧ ((s[n].toNat : Int) != 10) = false) ∨ (∃ h : n < s.size, ((s[n].toNat : Int) != 32) = true ∧ ((s[n].toNat : Int) != 10) = true) := by
                  by_cases hms : n < s.size
                  · right
                    cases a32 : ((s[n].toNat : Int) != 32) with
                    | false => exact .inl ⟨hms, a32⟩
                    | true =>
                      right
                      cases a10 : ((s[n].toNat : Int) != 10) with
                      | false => exact .inl ⟨hms, a32, a10⟩
                      | true => exact .inr ⟨hms, a32, a10⟩
                  · exact .inl hms
                have hst2 : n ≤ stopAt isNl s.data.toList i := by omega
                rcases tests with hms | ⟨hms, q1⟩ | ⟨hms, q1, q2⟩ | ⟨hms, q1, q2⟩ <;>
                · go_wp2
                  go_loop [4] (fun v => ∃ m : Nat, n ≤ m ∧ m ≤ stopAt isNl s.data.toList i ∧ v = .int .i64 m) (fun v => s.size - (intOf v).toNat)
                  case atStart => exact ⟨n, Nat.le_refl _, hst2, rfl⟩
                  case round =>
                    obtain ⟨m, hm1, hm2, rfl⟩ := hrel
                    by_cases hms : m < s.size
                    · have hgm := getD_at s m hms
                      cases hnl : (s[m] == 10) with
                      | true =>
                        have tn : ((s[m].toNat : Int) != 10) = false := byteNeT (d := 10) hnl
                        have HM : Hid (stopAt isNl s.data.toList i = m) := stopAt_here (by omega) hm2 (by rw [sz]; exact hms) (by rw [hgm]; exact hnl)
                        clear hgm hnl
                        go_wp2
                        go_roundw
                        case rel => exact ⟨pre, f, m, by omega, by have := HM.out; omega, rfl, hown, hbel, by rw [← HM.out]; exact HD2⟩
                        case measure => have := HM.out; simp [intOf]; omega
                      | false =>
                        have tn : ((s[m].toNat : Int) != 10) = true := byteNeT (d := 10) hnl
                        have HM : m + 1 ≤ stopAt isNl s.data.toList i := stopAt_next hm2 (by rw [sz]; exact hms) (by rw [hgm]; exact hnl)
                        clear hgm hnl
                        go_wp2
                        go_round
                        case rel => exact ⟨m + 1, by omega, by omega, by go_num⟩
                        case measure => simp [intOf]; omega
                    · have HM : Hid (stopAt isNl s.data.toList i = m) := by show _ = _; omega
                      go_wp2
                      go_roundw
                      case rel => exact ⟨pre, f, m, by omega, by have := HM.out; omega, rfl, hown, hbel, by rw [← HM.out]; exact HD2⟩
                      case measure => have := HM.out; simp [intOf]; omega
          | false =>
            have t35 : ((s[i].toNat : Int) != 35) = true := byteNeT (d := 35) h35
            have HD2 := Lib.hid (HD.out.trans (congrArg (pre ++ ·) (HS.out.trans (by rw [isSp, h32, h10, if_neg (by simp), if_neg (by simpa using h35)]))))
            have hst : i + 1 ≤ stopAt isSp s.data.toList i := stopAt_next (stopAt_ge _ _ _) (by rw [sz]; exact hlt) (by rw [getD_at s i hlt, isSp, h10, h32]; rfl)
            have hsl : stopAt isSp s.data.toList i ≤ s.size := by rw [← sz]; exact stopAt_le _ (by rw [sz]; omega)
            clear h32 h10 h35
            go_wp2
            go_loop [4] (fun v => ∃ m : Nat, i ≤ m ∧ m ≤ stopAt isSp s.data.toList i ∧ v = .int .i64 m) (fun v => s.size - (intOf v).toNat)
            case atStart => exact ⟨i, Nat.le_refl _, by omega, rfl⟩
            case round =>
              obtain ⟨m, hm1, hm2, rfl⟩ := hrel
              by_cases hstop : stopAt isSp s.data.toList i = m
              · have tests : (¬ m < s.size) ∨ (∃ h : m < s.size, ((s[m].toNat : Int) != 32) = false) ∨ (∃ h : m < s.size, ((s[m].toNat : Int) != 32) = true ∧ ((s[m].toNat : Int) != 10) = false) := by
                  by_cases hms : m < s.size
                  · right
                    have hsp : isSp (s.data.toList.getD m 0) = true := by
                      cases hq : isSp (s.data.toList.getD m 0) with
                      | true => rfl
                      | false => have := stopAt_next hm2 (by rw [sz]; exact hms) hq; omega
                    rw [getD_at s m hms, isSp] at hsp
                    cases a32 : (s[m] == 32) with
                    | true => exact .inl ⟨hms, byteNeT (d := 32) a32⟩
                    | false =>
                      rw [a32] at hsp
                      exact .inr ⟨hms, byteNeT (d := 32) a32, byteNeT (d := 10) hsp⟩
                  · exact .inl hms
                have HN : Hid (wordsOf s = (pre ++ [(s.extract i m, i)]) ++ toks s f m) := by
                  show _ = _; rw [HD2.out, hstop]; simp
                have hml : i + 1 ≤ m := by omega
                have hml2 : m ≤ s.size := by omega
                have hmi : ((m : Int) == (i : Int)) = false := by rw [beq_eq_false_iff_ne]; omega
                have hbz := hbel.size
                clear hstop hst hsl hm2
                rcases tests with hms | ⟨hms, q1⟩ | ⟨hms, q1, q2⟩ <;>
                · go_wp2_with (at_builtin; refine wpList_append_own _ rfl _ _ 171 rfl w.heap.size 176 i0 _ 2 24 Tryz.underlying171 hi hz0 hz1 hz2 rfl (by decide) _ _ _ rfl (hown.alloc _) ⟨wr.heap.size, 0, none⟩ 1 1 [.string (s.extract i m), .int .i64 i] rfl rfl (cell_two _ _ _ _) (by simp [Value.oneCell']) (by unfold maxLen; omega) (by omega) (by simp; omega) ?_)
                  intro v' w3 hown3 hg3 _
                  have hb3 : Below w.heap.size w w3 := (qtrans hbel (qalloc wr _)).grown hg3 (by simp; omega) (fun k hk => owns_block hown hk)
                  clear hg3 hown
                  go_wp2
                  go_roundw
                  case rel => exact ⟨pre ++ [(s.extract i m, i)], f, m, hml2, by omega, rfl, by rw [wordCells_snoc, List.length_append]; exact hown3, hb3, HN⟩
                  case measure => simp [intOf]; omega
              · have hms : m < s.size := by omega
                have hsp : isSp (s.data.toList.getD m 0) = false := by
                  cases hq : isSp (s.data.toList.getD m 0) with
                  | false => rfl
                  | true => exact absurd (stopAt_here hm1 hm2 (by rw [sz]; exact hms) hq) hstop
                rw [getD_at s m hms, isSp, Bool.or_eq_false_iff] at hsp
                have q1 : ((s[m].toNat : Int) != 32) = true := byteNeT (d := 32) hsp.1
                have q2 : ((s[m].toNat : Int) != 10) = true := byteNeT (d := 10) hsp.2
                have HM : m + 1 ≤ stopAt isSp s.data.toList i := by omega
                clear hsp hstop
                go_wp2
                go_round
                case rel => exact ⟨m + 1, by omega, by omega, by go_num⟩
                case measure => simp [intOf]; omega
    · have HL : Hid (wordsOf s = pre) := by
        show _ = _
        rw [HD.out, toks_end s f hlt, List.append_nil]
      go_wp2
      go_ret
      rw [HL.out]
      exact ⟨_, rfl, owns_row hown, owns_type hown, hbel⟩
end Go.Proofs.YtidkpnabdfiilaaGreatDoor

namespace Go.Proofs.YtidkpnabdfiilaaGreatDoor
open Go.RowKit

theorem heap_setCell_at {w : World} {R : Nat} {cs : Array Value} {t : TypeId} {m : Nat × Nat} (h : w.heap[R]? = some (.cells cs t m)) (o : Nat) (v : Value) : (w.setCell ⟨R, o, none⟩ v).heap[R]? = some (.cells (cs.setIfInBounds o v) t m) := by
  obtain ⟨hlt, hk⟩ := Array.getElem?_eq_some_iff.1 h
  show (w.heap.modify R _)[R]? = _
  rw [Array.getElem?_eq_getElem (by rw [Array.size_modify]; exact hlt), Array.getElem_modify_self, hk]
  rfl
/-- A block of cells that the call has made. -/
def CBox (w : World) (B : Nat) (t : TypeId) (xs : Array Value) : Prop := w.heap[B]? = some (.cells xs t (0, 0))
theorem CBox.lt {w : World} {B : Nat} {t : TypeId} {xs : Array Value} (h : CBox w B t xs) : B < w.heap.size := (Array.getElem?_eq_some_iff.1 h).1
theorem CBox.cell {w : World} {B : Nat} {t : TypeId} {xs : Array Value} (h : CBox w B t xs) {i : Nat} {v : Value} (hi : xs[i]? = some v) : w.cell? ⟨B, i, none⟩ = some v := by
  have h' : w.heap[B]? = _ := h
  simp [World.cell?, h', hi]
theorem CBox.frozen {w : World} {B : Nat} {t : TypeId} {xs : Array Value} (h : CBox w B t xs) (o : Nat) : w.frozen? ⟨B, o, none⟩ = false := by
  have h' : w.heap[B]? = _ := h
  simp [World.frozen?, h']
theorem CBox.new (w : World) (t : TypeId) (xs : Array Value) : CBox (w.alloc (.cells xs t)) w.heap.size t xs := World.alloc_heap_new _ _
theorem CBox.below {w w' : World} {B : Nat} {t : TypeId} {xs : Array Value} (h : CBox w B t xs) (m : Below w.heap.size w w') : CBox w' B t xs := (m.block B h.lt).trans h
theorem CBox.alloc {w : World} {B : Nat} {t : TypeId} {xs : Array Value} (h : CBox w B t xs) (o : Obj) : CBox (w.alloc o) B t xs := h.below (qalloc w o)
theorem CBox.mod {X : List Nat} {w w' : World} {B : Nat} {t : TypeId} {xs : Array Value} (h : CBox w B t xs) (m : Mod X w w') (hx : B ∉ X) : CBox w' B t xs := (m.block B h.lt hx).trans h
theorem CBox.set {w : World} {B : Nat} {t : TypeId} {xs : Array Value} (h : CBox w B t xs) (o : Nat) (v : Value) : CBox (w.setCell ⟨B, o, none⟩ v) B t (xs.setIfInBounds o v) := heap_setCell_at h o v

theorem owns_below {w w' : World} {base : Nat} {e : TypeId} {size : Nat} {v : Value} {n : Nat} {xs : List Value} (h : w.ownsRow base e size v n xs) (m : Below w.heap.size w w') : w'.ownsRow base e size v n xs := by
  obtain ⟨h1, h2⟩ := h
  refine ⟨h1, ?_⟩
  rcases h2 with h2 | ⟨g, cap, cur, h3, h4, h5, h6⟩
  · exact .inl h2
  · exact .inr ⟨g, cap, cur, h3, h4, (m.block g (Array.getElem?_eq_some_iff.1 h5).1).trans h5, h6⟩
theorem owns_mod {X : List Nat} {w w' : World} {base : Nat} {e : TypeId} {size : Nat} {v : Value} {n : Nat} {xs : List Value} (h : w.ownsRow base e size v n xs) (m : Mod X w w') (hx : ∀ b, v.ownBlock = some b → b ∉ X) : w'.ownsRow base e size v n xs := by
  obtain ⟨h1, h2⟩ := h
  refine ⟨h1, ?_⟩
  rcases h2 with h2 | ⟨g, cap, cur, rfl, h4, h5, h6⟩
  · exact .inl h2
  · exact .inr ⟨g, cap, cur, rfl, h4, (m.block g (Array.getElem?_eq_some_iff.1 h5).1 (hx g rfl)).trans h5, h6⟩
/-- A slice of data that the call owns: it may be appended to; what its elements reach lies neither in its own block nor in one of X. -/
def OwnT {α : Type} (w : World) (X : List Nat) (base : Nat) (e : TypeId) (size : Nat) (f : α → List Tree) (v : Value) (l : List α) : Prop :=
  ∃ xs, w.ownsRow base e size v l.length xs ∧ ReadsL w (v.ownBlock.toList ++ X) (l.flatMap f) xs
section
variable {α : Type} {w w' : World} {X : List Nat} {base : Nat} {e : TypeId} {size : Nat} {f : α → List Tree} {v v' : Value} {l : List α}
theorem OwnT.nil (w : World) (X : List Nat) (base : Nat) (e : TypeId) (size : Nat) (f : α → List Tree) : OwnT w X base e size f (.slice none 0 0) [] := ⟨[], World.ownsRow_nil w base e size, by simp [ReadsL]⟩
theorem OwnT.val (h : OwnT w X base e size f v l) : ∃ a cap, v = .slice a l.length cap ∧ l.length ≤ cap ∧ cap ≤ 9223372036854775807 := by
  obtain ⟨xs, h1, _⟩ := h
  obtain ⟨_, a, cap, e, h2, h3, _⟩ := owns_row h1
  exact ⟨a, cap, e, h2, by unfold maxLen at h3; omega⟩
theorem OwnT.ge (h : OwnT w X base e size f v l) {b : Nat} (hb : v.ownBlock = some b) : base ≤ b := by
  obtain ⟨xs, h1, _⟩ := h; exact owns_block h1 hb
theorem OwnT.lt (h : OwnT w X base e size f v l) {b : Nat} (hb : v.ownBlock = some b) : b < w.heap.size := by
  obtain ⟨xs, h1, _⟩ := h; exact (h1.lt b hb).2
theorem OwnT.lower (h : OwnT w X base e size f v l) {base' : Nat} (hb : base' ≤ base) : OwnT w X base' e size f v l := by
  obtain ⟨xs, ⟨h1, h2⟩, h3⟩ := h
  refine ⟨xs, ⟨h1, ?_⟩, h3⟩
  rcases h2 with h2 | ⟨g, cap, cur, a, b, c⟩
  · exact .inl h2
  · exact .inr ⟨g, cap, cur, a, Nat.le_trans hb b, c⟩
theorem OwnT.below (h : OwnT w X base e size f v l) (m : Below w.heap.size w w') : OwnT w' X base e size f v l := by
  obtain ⟨xs, h1, h2⟩ := h; exact ⟨xs, owns_below h1 m, h2.below m⟩
theorem OwnT.mod (h : OwnT w X base e size f v l) (m : Mod X w w') (hx : ∀ b, v.ownBlock = some b → b ∉ X) : OwnT w' X base e size f v l := by
  obtain ⟨xs, h1, h2⟩ := h; exact ⟨xs, owns_mod h1 m hx, h2.mod (m.mono (fun k hk => List.mem_append_right _ hk))⟩
theorem OwnT.fewer (h : OwnT w X base e size f v l) {Y : List Nat} (hs : ∀ k, k ∈ Y → k ∈ X) : OwnT w Y base e size f v l := by
  obtain ⟨xs, h1, h2⟩ := h
  exact ⟨xs, h1, h2.fewer (fun k hk => by rcases List.mem_append.1 hk with hk | hk; exact List.mem_append_left _ hk; exact List.mem_append_right _ (hs k hk))⟩
theorem OwnT.more (h : OwnT w X base e size f v l) {k : Nat} (hk : w.heap.size ≤ k) : OwnT w (k :: X) base e size f v l := by
  obtain ⟨xs, h1, h2⟩ := h
  refine ⟨xs, h1, (h2.more hk).fewer (fun j hj => ?_)⟩
  rcases List.mem_append.1 hj with hj | hj
  · exact List.mem_cons_of_mem _ (List.mem_append_left _ hj)
  · rcases List.mem_cons.1 hj with rfl | hj
    · exact List.mem_cons_self
    · exact List.mem_cons_of_mem _ (List.mem_append_right _ hj)
theorem OwnT.reads (h : OwnT w X base e size f v l) (hx : ∀ b, v.ownBlock = some b → b ∉ X) : Reads w X (rowT size f l) v := by
  obtain ⟨xs, h1, h2⟩ := h
  exact Reads.ofRow (owns_row h1) (fun _ => hx) (h2.fewer (fun k hk => List.mem_append_right _ hk))
theorem OwnT.reads0 (h : OwnT w X base e size f v l) : Reads w [] (rowT size f l) v := (h.fewer (Y := []) (by simp)).reads (by simp)
/-- An append of one element, as the law tells it. -/
theorem OwnT.grown {xs news : List Value} {a : α} (h1 : w.ownsRow base e size v l.length xs) (h2 : ReadsL w (v.ownBlock.toList ++ X) (l.flatMap f) xs) (h3 : ReadsL w (v.ownBlock.toList ++ X) (f a) news)
    (ho : w'.ownsRow base e size v' (l.length + 1) (xs ++ news)) (hg : w.grownBy w' v.ownBlock) (hb : v'.ownBlock = v.ownBlock ∨ v'.ownBlock = some w.heap.size) : OwnT w' X base e size f v' (l ++ [a]) := by
  have _ := h1
  refine ⟨xs ++ news, by simpa using ho, ?_⟩
  have h4 : ReadsL w (v.ownBlock.toList ++ X) ((l ++ [a]).flatMap f) (xs ++ news) := by
    rw [List.flatMap_append, List.flatMap_cons, List.flatMap_nil, List.append_nil]; exact ReadsL.append h3 h2
  have m : Mod (w.heap.size :: (v.ownBlock.toList ++ X)) w w' := (mod_of_grown hg).mono (fun k hk => List.mem_cons_of_mem _ (List.mem_append_left _ hk))
  have h5 := (h4.more (Nat.le_refl _)).mod m
  refine h5.fewer (fun k hk => ?_)
  rcases List.mem_append.1 hk with hk | hk
  · rcases hb with hb | hb
    · rw [hb] at hk; exact List.mem_cons_of_mem _ (List.mem_append_left _ hk)
    · rw [hb] at hk
      rw [show k = w.heap.size by simpa using hk]
      exact List.mem_cons_self
  · exact List.mem_cons_of_mem _ (List.mem_append_right _ hk)
end

/-! Words. -/
theorem words_elem {w : World} {ws : Words} {a : Option Addr} {cap : Nat} (h : IsWords w (.slice a ws.length cap) ws) {i : Nat} {x : ByteArray × Nat} (hi : ws[i]? = some x) :
    ∃ b o : Nat, a = some ⟨b, o, none⟩ ∧ b < w.heap.size ∧ w.cell? ⟨b, o + i * 2, none⟩ = some (.string x.1) ∧ w.cell? ⟨b, o + i * 2 + 1, none⟩ = some (.int .i64 x.2) := by
  obtain ⟨_, a', cap', e, h1, h2, h3⟩ := h
  cases e
  have hlt : i < ws.length := (List.getElem?_eq_some_iff.1 hi).1
  obtain ⟨b, o, rfl, hb, hc⟩ := h3 (by omega)
  have key : ∀ (ws : Words) (i : Nat), ws[i]? = some x → (wordCells ws)[i * 2]? = some (.string x.1) ∧ (wordCells ws)[i * 2 + 1]? = some (.int .i64 x.2) := by
    intro ws
    induction ws with
    | nil => intro i h; simp at h
    | cons y r ih =>
      intro i h
      have e : wordCells (y :: r) = .string y.1 :: .int .i64 y.2 :: wordCells r := rfl
      cases i with
      | zero => simp at h; subst h; rw [e]; simp
      | succ i =>
        have := ih i (by simpa using h)
        rw [e, show (i + 1) * 2 = i * 2 + 1 + 1 by omega]
        simpa using this
  obtain ⟨k1, k2⟩ := key ws i hi
  exact ⟨b, o, rfl, hb, hc _ _ k1, by have := hc _ _ k2; rwa [← Nat.add_assoc] at this⟩
theorem words_val {w : World} {v : Value} {ws : Words} (h : IsWords w v ws) : ∃ a c, v = .slice a ws.length c ∧ ws.length ≤ c ∧ c ≤ 9223372036854775807 := by
  obtain ⟨_, a, c, e, h1, h2, _⟩ := h; exact ⟨a, c, e, h1, by unfold maxLen at h2; omega⟩
theorem words_below {w w' : World} {v : Value} {ws : Words} (h : IsWords w v ws) (m : Below w.heap.size w w') : IsWords w' v ws := IsRow.below h m
end Go.Proofs.YtidkpnabdfiilaaGreatDoor
