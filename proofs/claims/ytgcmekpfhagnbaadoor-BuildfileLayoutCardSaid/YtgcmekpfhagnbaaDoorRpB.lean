/- The reference's reader of words: is, next, word. -/
import Derived.Test.YtgcmekpfhagnbaaDoorRpA
namespace Go.Proofs.YtgcmekpfhagnbaaDoor
open Go.RowKit

/-- What is() tells of the words that are left. -/
def isT (ws : Words) (bad : Bool) (txt : ByteArray) : Bool := !bad && (match ws with | [] => false | x :: _ => x.1.toList == txt.toList)
def nextT (ws : Words) (bad fits : Bool) : Words × Bool := if bad || !fits || ws.isEmpty then (ws, true) else (ws.tail, false)
def wordT (ws : Words) (bad : Bool) : ByteArray := if bad then ⟨#[]⟩ else headT ws

theorem ris_any (v : Value) (ws : Words) (bad : Bool) (txt : ByteArray) (w : World) (hv : IsWords w v ws) (hl : ws.length ≤ 40000) :
    Calls Tryd.prog 60 #[.agg #[v, .bool bad], .string txt] w fun e w' => e = .returned (.bool (isT ws bad txt)) ∧ w.alloc (.cells #[v, .bool bad] 57) = w' := by
  cases ws with
  | nil =>
    obtain ⟨a, cap, rfl⟩ := hv.nil
    clear hv
    cases bad <;>
    · go_enter Tryd.func60, Tryd.ntmps60
      go_wp2
      go_ret
      exact ⟨rfl, rfl⟩
  | cons x r =>
    obtain ⟨b, o, cap, rfl, h1, h2, hb, c0, c1, _⟩ := hv.cons
    clear hv
    simp only [List.length_cons] at hl
    have hz : decide ((0 : Int) < ((r.length + 1 : Nat) : Int)) = true := decide_eq_true (by omega)
    have hz1 : decide (0 < r.length + 1) = true := decide_eq_true (by omega)
    cases bad <;>
    · go_enter Tryd.func60, Tryd.ntmps60
      go_wp2
      go_ret
      exact ⟨rfl, rfl⟩
theorem rwordT_any (v : Value) (ws : Words) (bad : Bool) (w : World) (hv : IsWords w v ws) (hl : ws.length ≤ 40000) :
    Calls Tryd.prog 62 #[.agg #[v, .bool bad]] w fun e w' => e = .returned (.string (wordT ws bad)) ∧ w.alloc (.cells #[v, .bool bad] 57) = w' := by
  cases ws with
  | nil =>
    obtain ⟨a, cap, rfl⟩ := hv.nil
    clear hv
    cases bad <;>
    · go_enter Tryd.func62, Tryd.ntmps62
      go_wp2
      go_ret
      exact ⟨rfl, rfl⟩
  | cons x r =>
    obtain ⟨b, o, cap, rfl, h1, h2, hb, c0, c1, _⟩ := hv.cons
    clear hv
    simp only [List.length_cons] at hl
    have hz : (((r.length + 1 : Nat) : Int) == 0) = false := by rw [beq_eq_false_iff_ne]; omega
    cases bad <;>
    · go_enter Tryd.func62, Tryd.ntmps62
      go_wp2
      go_ret
      exact ⟨rfl, rfl⟩
def NextPost (x : Words × Bool) (v : Value) (w : World) (e : Ending) (w' : World) : Prop :=
  ∃ v', e = .returned (.agg #[v', .bool x.2]) ∧ IsWords w' v' x.1 ∧ v'.ownBlock = v.ownBlock ∧ Below w.heap.size w w'
theorem words_alloc {w : World} {v : Value} {ws : Words} (h : IsWords w v ws) (o : Obj) : IsWords (w.alloc o) v ws := IsRow.below h (qalloc w o)
theorem rnext_any (v : Value) (ws : Words) (bad fits : Bool) (w : World) (hv : IsWords w v ws) (hl : ws.length ≤ 40000) :
    Calls Tryd.prog 61 #[.agg #[v, .bool bad], .bool fits] w (NextPost (nextT ws bad fits) v w) := by
  have HV := Lib.hid hv
  have stay : ∀ (a : Option Addr) (n cap : Nat), v = .slice a n cap → nextT ws bad fits = (ws, true) → bad = true ∨ fits = false ∨ n = 0 →
      Calls Tryd.prog 61 #[.agg #[.slice a n cap, .bool bad], .bool fits] w (NextPost (ws, true) (.slice a n cap) w) := by
    rintro a n cap rfl hN hc
    clear hN
    clear hv
    have hB := qtrans (qalloc w (.cells #[.slice a n cap, .bool true] 57)) (qalloc _ (.cells #[.slice a n cap, .bool true] 57))
    have HB := Lib.hid hB
    clear hB
    rcases hc with rfl | rfl | rfl
    · cases fits <;>
      · go_enter Tryd.func61, Tryd.ntmps61
        go_wp2
        exact bodyPost_ret (v := .agg #[.slice a n cap, .bool true]) (by simp [results, Tryd.results61, go_sem]) rfl ⟨_, rfl, IsRow.below HV.out HB.out, rfl, HB.out⟩
    · cases bad <;>
      · go_enter Tryd.func61, Tryd.ntmps61
        go_wp2
        exact bodyPost_ret (v := .agg #[.slice a n cap, .bool true]) (by simp [results, Tryd.results61, go_sem]) rfl ⟨_, rfl, IsRow.below HV.out HB.out, rfl, HB.out⟩
    · cases bad <;> cases fits <;>
      · go_enter Tryd.func61, Tryd.ntmps61
        go_wp2
        exact bodyPost_ret (v := .agg #[.slice a 0 cap, .bool true]) (by simp [results, Tryd.results61, go_sem]) rfl ⟨_, rfl, IsRow.below HV.out HB.out, rfl, HB.out⟩
  cases ws with
  | nil =>
    have hN : nextT [] bad fits = ([], true) := by unfold nextT; simp
    obtain ⟨a, cap, rfl⟩ := hv.nil
    rw [hN]
    exact stay a 0 cap rfl hN (.inr (.inr rfl))
  | cons x r =>
    obtain ⟨b, o, cap, rfl, h1, h2, hb, c0, c1, hrest⟩ := hv.cons
    cases bad with
    | true =>
      have hN : nextT (x :: r) true fits = (x :: r, true) := by unfold nextT; simp
      rw [hN]
      exact stay _ _ _ rfl hN (.inl rfl)
    | false =>
      cases fits with
      | false =>
        have hN : nextT (x :: r) false false = (x :: r, true) := by unfold nextT; simp
        rw [hN]
        exact stay _ _ _ rfl hN (.inr (.inl rfl))
      | true =>
        have hN : nextT (x :: r) false true = (r, false) := by unfold nextT; simp
        rw [hN]
        clear stay hN hv
        have HR := Lib.hid hrest
        clear hrest
        simp only [List.length_cons] at hl
        have hz : (((r.length + 1 : Nat) : Int) == 0) = false := by rw [beq_eq_false_iff_ne]; omega
        by_cases hcap : cap = 1
        · subst hcap
          have hr0 : r = [] := by apply List.eq_nil_of_length_eq_zero; omega
          subst hr0
          clear h1 h2
          go_enter Tryd.func61, Tryd.ntmps61
          go_wp2
          exact bodyPost_ret (v := .agg #[.slice (some ⟨b, o, none⟩) 0 0, .bool false]) (by simp [results, Tryd.results61, go_sem]) rfl ⟨_, rfl, IsWords.tail0 _ _ _ (by unfold maxLen; omega), rfl, qtrans (qalloc _ _) (qalloc _ _)⟩
        · go_enter Tryd.func61, Tryd.ntmps61
          go_wp2
          exact bodyPost_ret (v := .agg #[.slice (some ⟨b, o + 2, none⟩) r.length (cap - 1), .bool false]) (by simp [results, Tryd.results61, go_sem]) rfl ⟨_, rfl, words_alloc (words_alloc HR.out _) _, rfl, qtrans (qalloc _ _) (qalloc _ _)⟩
end Go.Proofs.YtgcmekpfhagnbaaDoor
