/- buildfile.Parse. -/
import Derived.Test.YtgcmekpfhagnbaaDoorPsA
import Derived.Test.YtgcmekpfhagnbaaDoorBfG
namespace Go.Proofs.YtgcmekpfhagnbaaDoor
open Go.RowKit

theorem Collect_words (s : ByteArray) (hs : s.size ≤ 40000) (w : World) (Bs : Nat) (c1 : w.cell? ⟨Bs, 0, none⟩ = some (.string s)) :
    Calls Tryd.prog 25 #[.func (.func 53) #[] #[.pointer (some ⟨Bs, 0, none⟩)]] w fun e w' =>
      ∃ v, e = .returned v ∧ w'.ownsRow w.heap.size 47 2 v (wordsOf s).length (wordCells (wordsOf s)) ∧ Below w.heap.size w w' := by
  go_enter Tryd.func25, Tryd.ntmps25
  go_wp2_with (go_at_call 52; refine (AppendSeq_words s hs _ Bs c1).mono ?_; rintro e w' ⟨v, rfl, ho, hb⟩)
  go_ret
  exact ⟨_, rfl, ho, hb⟩

/-- What Parse gives: the rules, where an error is, and which. -/
def parseR (s : ByteArray) : List Rule × Int × Int :=
  match parseW (wordsOf s).length ⟨wordsOf s, 0, ⟨#[]⟩, [], []⟩ [] with
  | .ok rs => if checkErr rs = 0 then (rs, 0, 0) else ([], 0, checkErr rs)
  | .error [] => ([], s.size, 3)
  | .error (x :: _) => ([], x.2, 3)
def ParsePost (x : List Rule × Int × Int) (w : World) (e : Ending) (w' : World) : Prop :=
  ∃ v, e = .returned (.tuple #[v, .int .i64 x.2.1, .int .i64 x.2.2]) ∧ IsRules w' v x.1 ∧ Below w.heap.size w w'
/-- The rules collected so far: their cells; the lists lie in blocks of strings other than the reader's. -/
def RC (w : World) (B : Nat) : List Rule → List Value → Prop
  | [], xs => xs = []
  | r :: rs, xs => ∃ dv vv rest, xs = .int .i64 r.kind :: .string r.name :: dv :: vv :: rest ∧ (Strs w dv r.deps ∧ OwnStr B w dv) ∧ (Strs w vv r.vis ∧ OwnStr B w vv) ∧ RC w B rs rest
theorem RC.cells {w : World} {B : Nat} : ∀ {rs : List Rule} {xs : List Value}, RC w B rs xs → RuleCells w [] rs xs
  | [], _, h => h
  | _ :: _, _, ⟨dv, vv, rest, e, h1, h2, h3⟩ => ⟨dv, vv, rest, e, ⟨h1.1, by simp⟩, ⟨h2.1, by simp⟩, RC.cells h3⟩
theorem RC.len {w : World} {B : Nat} {rs : List Rule} {xs : List Value} (h : RC w B rs xs) : xs.length = rs.length * 4 := h.cells.len
theorem RC.modR {w w' : World} {B R : Nat} (m : Mod [R] w w') (hRB : R < B) : ∀ {rs : List Rule} {xs : List Value}, RC w B rs xs → RC w' B rs xs
  | [], _, h => h
  | _ :: _, _, ⟨dv, vv, rest, e, h1, h2, h3⟩ => ⟨dv, vv, rest, e, h1.1.modB h1.2 m hRB, h2.1.modB h2.2 m hRB, RC.modR m hRB h3⟩
/-- A block of another type is turned: the lists lie as they lay. -/
theorem Strs.grown {w w' : World} {v lv : Value} {ss : List ByteArray} {B : Nat} {t : TypeId} {row : Option Nat} (h : Strs w v ss) (ho : OwnStr B w v) (g : w.grownBy w' row) (ht : t ≠ 9) (hrow : ∀ b, row = some b → ∃ cur m, w.heap[b]? = some (.cells cur t m)) (_ : row = lv.ownBlock) : Strs w' v ss ∧ OwnStr B w' v := by
  have m : Mod row.toList w w' := ⟨g.os, g.tape, g.output, g.size, fun k hk hx => g.block k hk (fun e => hx (by rw [← e]; simp))⟩
  have ne : ∀ b, v.ownBlock = some b → b ∉ row.toList := fun b hb hx => by
    obtain ⟨_, cur, q, hh⟩ := ho b hb
    obtain ⟨cur', q', hh'⟩ := hrow b (by simpa using hx)
    rw [hh] at hh'
    cases hh'
    exact ht rfl
  refine ⟨h.mod m ne, fun b hb => ?_⟩
  obtain ⟨h1, cur, q, hh⟩ := ho b hb
  exact ⟨h1, cur, q, m.heap hh (ne b hb)⟩
theorem RC.grown {w w' : World} {lv : Value} {B : Nat} {t : TypeId} (g : w.grownBy w' lv.ownBlock) (ht : t ≠ 9) (hrow : ∀ b, lv.ownBlock = some b → ∃ cur m, w.heap[b]? = some (.cells cur t m)) : ∀ {rs : List Rule} {xs : List Value}, RC w B rs xs → RC w' B rs xs
  | [], _, h => h
  | _ :: _, _, ⟨dv, vv, rest, e, h1, h2, h3⟩ => ⟨dv, vv, rest, e, h1.1.grown h1.2 g ht hrow rfl, h2.1.grown h2.2 g ht hrow rfl, RC.grown g ht hrow h3⟩
theorem RC.snoc {w : World} {B : Nat} {r : Rule} {dv vv : Value} (h1 : Strs w dv r.deps ∧ OwnStr B w dv) (h2 : Strs w vv r.vis ∧ OwnStr B w vv) :
    ∀ {rs : List Rule} {xs : List Value}, RC w B rs xs → RC w B (rs ++ [r]) (xs ++ [.int .i64 r.kind, .string r.name, dv, vv])
  | [], _, h => by rw [show _ = [] from h]; exact ⟨dv, vv, [], rfl, h1, h2, rfl⟩
  | _ :: _, _, ⟨d, v, rest, e, g1, g2, h3⟩ => by
    rw [e]
    exact ⟨d, v, rest ++ [.int .i64 r.kind, .string r.name, dv, vv], rfl, g1, g2, RC.snoc h1 h2 h3⟩
theorem owns_type {w : World} {base : Nat} {e : TypeId} {size : Nat} {v : Value} {n : Nat} {xs : List Value} (h : w.ownsRow base e size v n xs) : ∀ b, v.ownBlock = some b → ∃ cur m, w.heap[b]? = some (.cells cur e m) := fun b hb => by
  rcases h.2 with ⟨rfl, _⟩ | ⟨g', cap, cur, rfl, h1, hh, _⟩
  · cases hb
  · cases hb; exact ⟨cur, _, hh⟩
theorem owns_val {w : World} {base : Nat} {e : TypeId} {size : Nat} {v : Value} {n : Nat} {xs : List Value} (h : w.ownsRow base e size v n xs) : ∃ a cap, v = .slice a n cap := by
  obtain ⟨_, a, cap, e, _⟩ := owns_row h; exact ⟨a, cap, e⟩
theorem infoRule : (Tryd.prog.info? 42).map (fun i => (i.zero, i.size, i.bytes)) = some (some (.agg #[.int .i64 0, .string ⟨#[]⟩, .slice none 0 0, .slice none 0 0]), 4, 72) := by kernel_rfl

def fnCells (R : Nat) : Array Value := #[.func (.func 27) #[.pointer (some ⟨R, 0, none⟩)] #[], .func (.func 28) #[.pointer (some ⟨R, 0, none⟩)] #[], .func (.func 29) #[.pointer (some ⟨R, 0, none⟩)] #[], .func (.func 30) #[.pointer (some ⟨R, 0, none⟩)] #[], .func (.func 31) #[.pointer (some ⟨R, 0, none⟩)] #[]]
/-- The words that are left, as the walk reads them where a part has failed. -/
theorem StIs.left {w : World} {R B : Nat} {st : St} (h : StIs w R B st) : R < w.heap.size ∧
    ((st.ws = [] ∧ ∃ a c, w.cell? ⟨R, 0, none⟩ = some (.slice a 0 c)) ∨
     ∃ x r b o c, st.ws = x :: r ∧ w.cell? ⟨R, 0, none⟩ = some (.slice (some ⟨b, o, none⟩) (r.length + 1) c) ∧ r.length + 1 ≤ c ∧ c ≤ 9223372036854775807 ∧ w.cell? ⟨b, o + 1, none⟩ = some (.int .i64 x.2)) := by
  obtain ⟨v, dv, vv, hr, hw, _, _⟩ := h
  refine ⟨hr.cells.1, ?_⟩
  cases hws : st.ws with
  | nil =>
    rw [hws] at hw
    obtain ⟨a, c, rfl⟩ := hw.1.nil
    exact .inl ⟨rfl, a, c, hr.cells.2.1⟩
  | cons x r =>
    rw [hws] at hw
    obtain ⟨b, o, c, rfl, h1, h2, _, _, c1, _⟩ := hw.1.cons
    exact .inr ⟨x, r, b, o, c, rfl, hr.cells.2.1, h1, h2, c1⟩
theorem IsRules.none (w : World) : IsRules w (.slice none 0 0) [] := ⟨[], ⟨rfl, .none, 0, rfl, Nat.le_refl _, Nat.zero_le _, fun h => absurd h (Nat.lt_irrefl _)⟩, rfl⟩

theorem mod_of_grown {w w' : World} {row : Option Nat} (g : w.grownBy w' row) : Mod row.toList w w' :=
  ⟨g.os, g.tape, g.output, g.size, fun k hk hx => g.block k hk (fun e => hx (by rw [← e]; simp))⟩
theorem StIs.grown {w w' : World} {R B : Nat} {st : St} {lv : Value} {t : TypeId} (h : StIs w R B st) (g : w.grownBy w' lv.ownBlock) (ht : t ≠ 9) (hrow : ∀ b, lv.ownBlock = some b → ∃ cur m, w.heap[b]? = some (.cells cur t m)) (hR : ∀ b, lv.ownBlock = some b → R < b) : StIs w' R B st := by
  obtain ⟨v, dv, vv, hr, hw, hd, hv⟩ := h
  refine ⟨v, dv, vv, hr.mod (mod_of_grown g) (fun hx => ?_), hw.mods (mod_of_grown g) (fun k hk => ?_), hd.1.grown hd.2 g ht hrow rfl, hv.1.grown hv.2 g ht hrow rfl⟩
  · have := hR R (by simpa using hx); omega
  · have := hR k (by simpa using hk); omega
theorem StIs.below {w w' : World} {R B : Nat} {st : St} (h : StIs w R B st) (m : Below w.heap.size w w') (hRB : R < B) : StIs w' R B st := by
  obtain ⟨v, dv, vv, a1, a2, a3, a4⟩ := h
  have hm : Mod [R] w _ := Mod.of m
  exact ⟨v, dv, vv, a1.below m, a2.below m, a3.1.modB a3.2 hm hRB, a4.1.modB a4.2 hm hRB⟩
theorem owns_modR {w w' : World} {R : Nat} {e : TypeId} {size : Nat} {v : Value} {n : Nat} {xs : List Value} (h : w.ownsRow (R + 1) e size v n xs) (m : Mod [R] w w') : w'.ownsRow (R + 1) e size v n xs := by
  obtain ⟨h1, h2⟩ := h
  refine ⟨h1, ?_⟩
  rcases h2 with h2 | ⟨g, cap, cur, hv, hg, hh, r⟩
  · exact .inl h2
  · exact .inr ⟨g, cap, cur, hv, hg, m.heap hh (by simp; omega), r⟩
theorem cell_four (w : World) (x y z u : Value) (t : TypeId) : ∀ j q, [x, y, z, u][j]? = some q → (w.alloc (.cells #[x, y, z, u] t)).cell? ((⟨w.heap.size, 0, none⟩ : Addr).add j) = some q := by
  intro j q hj
  match j, hj with
  | 0, hj => simp at hj; subst hj; simp [Addr.add]
  | 1, hj => simp at hj; subst hj; simp [Addr.add]
  | 2, hj => simp at hj; subst hj; simp [Addr.add]
  | 3, hj => simp at hj; subst hj; simp [Addr.add]
  | (j + 4), hj => simp at hj

set_option maxRecDepth 100000 in
set_option maxHeartbeats 2000000 in
theorem Parse_any (s : ByteArray) (hs : s.size ≤ 40000) (w : World) :
    Calls Tryd.prog 12 #[.string s] w (ParsePost (parseR s) w) := by
  have hw0 := wordsOf_length s
  have hsm : SmallW (wordsOf s) := ⟨by omega, fun x hx => by have := toks_small s _ _ x hx; omega⟩
  have hd : decide (65536 < (s.size : Int)) = false := by simp; omega
  obtain ⟨i0, hi, hz0, hz1, hz2⟩ := info_parts infoRule
  go_enter Tryd.func12, Tryd.ntmps12
  go_wp2_with (first | (go_at_call 26; refine (words_any _ _).mono ?_; rintro e w' ⟨rfl, rfl⟩) | (go_at_call 25; refine (Collect_words s hs _ _ (by simp [go_sem])).mono ?_; rintro e w1 ⟨v, rfl, ho, hb1⟩; obtain ⟨a, cap, rfl⟩ := owns_val ho))
  have hrd : Rd (w1.alloc (.cells #[.slice a (wordsOf s).length cap, .int .i64 0, .string ⟨#[]⟩, .slice none 0 0, .slice none 0 0] 52)) w1.heap.size (.slice a (wordsOf s).length cap) 0 ⟨#[]⟩ (.slice none 0 0) (.slice none 0 0) := World.alloc_heap_new _ _
  have hwb : ∀ b, (Value.slice a (wordsOf s).length cap).ownBlock = some b → b < w1.heap.size := fun b hb => by
    obtain ⟨cur, m, hh⟩ := owns_type ho b hb
    exact (Array.getElem?_eq_some_iff.1 hh).1
  have hrw : RdW (w1.alloc (.cells #[.slice a (wordsOf s).length cap, .int .i64 0, .string ⟨#[]⟩, .slice none 0 0, .slice none 0 0] 52)) w1.heap.size (wordsOf s) (.slice a (wordsOf s).length cap) := ⟨(owns_row ho).below (qalloc _ _), hwb⟩
  have hbw := qtrans (qtrans (qalloc w (.cells #[.string s] 9)) hb1) (qalloc w1 (.cells #[.slice a (wordsOf s).length cap, .int .i64 0, .string ⟨#[]⟩, .slice none 0 0, .slice none 0 0] 52))
  have hRw : w.heap.size ≤ w1.heap.size := by have := hb1.size; simp at this; omega
  generalize hW : w1.alloc (.cells #[.slice a (wordsOf s).length cap, .int .i64 0, .string ⟨#[]⟩, .slice none 0 0, .slice none 0 0] 52) = W0 at *
  have hsz0 : w1.heap.size + 1 ≤ W0.heap.size := by rw [← hW]; simp
  clear hW ho hb1 hwb
  generalize w1.heap.size = R at *
  have hst0 : Hid (StIs W0 R (R + 1) ⟨wordsOf s, 0, ⟨#[]⟩, [], []⟩) := ⟨_, _, _, hrd, hrw, ⟨strsNil _, ownNil _ _⟩, ⟨strsNil _, ownNil _ _⟩⟩
  have hsst : SmallSt ⟨wordsOf s, 0, ⟨#[]⟩, [], []⟩ := ⟨hsm, Nat.zero_le _, by simp, by simp⟩
  clear hrd hrw
  clear w1
  go_loopw [6] (fun lv wr => ∃ (st : St) (rs : List Rule) (xs : List Value) (f : Nat), Hid (StIs wr R (R + 1) st) ∧ SmallSt st ∧ SmallRs rs ∧ wr.ownsRow (R + 1) 42 4 lv rs.length xs ∧ Hid (RC wr (R + 1) rs xs) ∧ Below w.heap.size w wr ∧ R + 1 ≤ wr.heap.size ∧ st.ws.length ≤ f ∧ rs.length + st.ws.length ≤ 40000 ∧ Hid (parseW (wordsOf s).length ⟨wordsOf s, 0, ⟨#[]⟩, [], []⟩ [] = parseW f st rs))
    (fun _ wr => wordsLeft wr R)
  case atStart => exact ⟨_, [], [], (wordsOf s).length, hst0, hsst, ⟨by simp⟩, ⟨rfl, .inl ⟨rfl, rfl⟩⟩, rfl, hbw, hsz0, Nat.le_refl _, by simp; omega, rfl⟩
  case round =>
    obtain ⟨st, rs, xs, f, HST, hss, hsr, hown, HRC, hbel, hz, hf, htot, HP⟩ := hrel
    clear hst0 hsst hbw hsz0
    clear W0
    have hWL : Hid (wordsLeft wr R = st.ws.length) := by
      obtain ⟨v, dv, vv, hr, hw', _, _⟩ := HST.out
      exact wordsLeft_eq hr hw'
    obtain ⟨v, q0, hvl⟩ : ∃ a c, wr.cell? ⟨R, 0, none⟩ = some (.slice a st.ws.length c) := by
      obtain ⟨v, dv, vv, hr, ⟨⟨_, a, c, rfl, _⟩, _⟩, _, _⟩ := HST.out
      exact ⟨a, c, hr.cells.2.1⟩
    by_cases hem : st.ws.length = 0
    · have HPR : Hid (parseW (wordsOf s).length ⟨wordsOf s, 0, ⟨#[]⟩, [], []⟩ [] = .ok rs) := by
        show _ = _
        rw [HP.out]
        cases f with
        | zero => rfl
        | succ f => rw [parseW, if_pos hem]
      have HIR : Hid (IsRules wr u6 rs) := ⟨xs, owns_row hown, HRC.out.cells⟩
      have hz0' : decide (0 < st.ws.length) = false := decide_eq_false (by omega)
      have hz1' : ¬ 0 < st.ws.length := by omega
      obtain ⟨al, cl, rfl⟩ := owns_val hown
      clear hown HRC
      by_cases hce : checkErr rs = 0
      · have HF : Hid (parseR s = (rs, 0, 0)) := by show _ = _; unfold parseR; rw [HPR.out]; simp only; rw [if_pos hce]
        have hce' : (checkErr rs != 0) = false := by simp [hce]
        clear hce hem
        go_wp2_with (go_at_call 22; refine (Check_any _ rs _ HIR.out hsr (by omega)).mono ?_; rintro e w2 ⟨rfl, hb2⟩)
        go_ret3
        rw [HF.out]
        exact ⟨_, rfl, HIR.out.below hb2, hbel.trans (hb2.mono hbel.size)⟩
      · have HF : Hid (parseR s = ([], 0, checkErr rs)) := by show _ = _; unfold parseR; rw [HPR.out]; simp only; rw [if_neg hce]
        have hce' : (checkErr rs != 0) = true := by simp [hce]
        clear hce hem
        go_wp2_with (go_at_call 22; refine (Check_any _ rs _ HIR.out hsr (by omega)).mono ?_; rintro e w2 ⟨rfl, hb2⟩)
        go_ret3
        rw [HF.out]
        exact ⟨_, rfl, ⟨[], ⟨rfl, none, 0, rfl, Nat.le_refl _, Nat.zero_le _, fun h => absurd h (Nat.lt_irrefl _)⟩, rfl⟩, hbel.trans (hb2.mono hbel.size)⟩
    · obtain ⟨f, rfl⟩ : ∃ f', f = f' + 1 := ⟨f - 1, by omega⟩
      have hz0' : decide (0 < st.ws.length) = true := decide_eq_true (by omega)
      have hz1' : 0 < st.ws.length := by omega
      have HP2 : Hid (parseW (f + 1) st rs = if (stepsFrom 0 5 st).1 then parseW f (stepsFrom 0 5 st).2 (rs ++ [ruleOf (stepsFrom 0 5 st).2]) else .error (stepsFrom 0 5 st).2.ws) := by show _ = _; rw [parseW, if_neg hem]
      go_wp2
      obtain ⟨wo, hwo⟩ : ∃ wo, wo = wr := ⟨_, rfl⟩
      subst hwo
      have hbF := qalloc wo (.cells #[.func (.func 27) #[.pointer (some ⟨R, 0, none⟩)] #[], .func (.func 28) #[.pointer (some ⟨R, 0, none⟩)] #[], .func (.func 29) #[.pointer (some ⟨R, 0, none⟩)] #[], .func (.func 30) #[.pointer (some ⟨R, 0, none⟩)] #[], .func (.func 31) #[.pointer (some ⟨R, 0, none⟩)] #[]] 22)
      have hF : (wo.alloc (.cells #[.func (.func 27) #[.pointer (some ⟨R, 0, none⟩)] #[], .func (.func 28) #[.pointer (some ⟨R, 0, none⟩)] #[], .func (.func 29) #[.pointer (some ⟨R, 0, none⟩)] #[], .func (.func 30) #[.pointer (some ⟨R, 0, none⟩)] #[], .func (.func 31) #[.pointer (some ⟨R, 0, none⟩)] #[]] 22)).heap[wo.heap.size]? = some (.cells (fnCells R) 22 (0, 0)) := World.alloc_heap_new wo _
      have HSF : Hid (StIs (wo.alloc (.cells #[.func (.func 27) #[.pointer (some ⟨R, 0, none⟩)] #[], .func (.func 28) #[.pointer (some ⟨R, 0, none⟩)] #[], .func (.func 29) #[.pointer (some ⟨R, 0, none⟩)] #[], .func (.func 30) #[.pointer (some ⟨R, 0, none⟩)] #[], .func (.func 31) #[.pointer (some ⟨R, 0, none⟩)] #[]] 22)) R (R + 1) st) := by
        obtain ⟨v, dv, vv, a1, a2, a3, a4⟩ := HST.out
        have hm : Mod [R] wo _ := Mod.of hbF
        exact ⟨v, dv, vv, a1.below hbF, a2.below hbF, a3.1.modB a3.2 hm (Nat.lt_succ_self _), a4.1.modB a4.2 hm (Nat.lt_succ_self _)⟩
      have hownF := hown.alloc (.cells #[.func (.func 27) #[.pointer (some ⟨R, 0, none⟩)] #[], .func (.func 28) #[.pointer (some ⟨R, 0, none⟩)] #[], .func (.func 29) #[.pointer (some ⟨R, 0, none⟩)] #[], .func (.func 30) #[.pointer (some ⟨R, 0, none⟩)] #[], .func (.func 31) #[.pointer (some ⟨R, 0, none⟩)] #[]] 22)
      have HRCF : Hid (RC (wo.alloc (.cells #[.func (.func 27) #[.pointer (some ⟨R, 0, none⟩)] #[], .func (.func 28) #[.pointer (some ⟨R, 0, none⟩)] #[], .func (.func 29) #[.pointer (some ⟨R, 0, none⟩)] #[], .func (.func 30) #[.pointer (some ⟨R, 0, none⟩)] #[], .func (.func 31) #[.pointer (some ⟨R, 0, none⟩)] #[]] 22)) (R + 1) rs xs) := HRC.out.modR (R := R) (Mod.of hbF) (Nat.lt_succ_self _)
      generalize hW : wo.alloc (.cells #[.func (.func 27) #[.pointer (some ⟨R, 0, none⟩)] #[], .func (.func 28) #[.pointer (some ⟨R, 0, none⟩)] #[], .func (.func 29) #[.pointer (some ⟨R, 0, none⟩)] #[], .func (.func 30) #[.pointer (some ⟨R, 0, none⟩)] #[], .func (.func 31) #[.pointer (some ⟨R, 0, none⟩)] #[]] 22) = WF at *
      have hzF : wo.heap.size + 1 ≤ WF.heap.size := by rw [← hW]; simp
      have hbelF : Below w.heap.size w WF := qtrans hbel hbF
      have HF := Lib.hid hF
      have hFR : R < wo.heap.size := by omega
      clear hW hF hbF hown HST HRC hvl hbel
      go_loopw [36] (fun jv wi => ∃ (j : Nat) (st' : St), j ≤ 5 ∧ jv = .int .i64 j ∧ Hid (StIs wi R (R + 1) st') ∧ SmallSt st' ∧ Hid (stepsFrom 0 5 st = stepsFrom j (5 - j) st') ∧ Mod [R] WF wi) (fun jv _ => 5 - (intOf jv).toNat)
      case atStart => exact ⟨0, st, by omega, rfl, HSF, hss, rfl, Mod.refl _ _⟩
      case round =>
        obtain ⟨j, st', hj, rfl, HS', hss', HQ, hmi⟩ := hrel
        have hzi : R + 1 ≤ wr.heap.size := by have := hmi.size; omega
        have hFi : wr.heap[wo.heap.size]? = some (.cells (fnCells R) 22 (0, 0)) := hmi.heap HF.out (by simp; omega)
        have hcases : j = 0 ∨ j = 1 ∨ j = 2 ∨ j = 3 ∨ j = 4 ∨ j = 5 := by omega
        rcases hcases with rfl | rfl | rfl | rfl | rfl | rfl
        · have hcf : wr.cell? ⟨wo.heap.size, 0, none⟩ = some (.func (.func 27) #[.pointer (some ⟨R, 0, none⟩)] #[]) := by simp [World.cell?, hFi, fnCells]
          clear hFi
          cases hb : (step 0 st').1 with
          | true =>
            have HQ2 : Hid (stepsFrom 0 5 st = stepsFrom 1 (5 - 1) (step 0 st').2) := by
              show _ = _; rw [HQ.out]; show (if (step 0 st').1 = true then _ else _) = _; rw [if_pos hb]
            go_wp2_with (fail)
            refine (part0 R (R + 1) st' _ (Nat.lt_succ_self _) hzi HS'.out hss').mono ?_
            rintro e w2 ⟨rfl, hst2, hm2⟩
            have HS2 := Lib.hid hst2
            clear hst2
            go_wp2
            go_roundw
            case rel => exact ⟨1, (step 0 st').2, by omega, rfl, HS2, (step_small 0 hss').1, HQ2, hmi.trans hm2⟩
            case measure => simp [intOf]
          | false =>
            have HQ2 : Hid (stepsFrom 0 5 st = (false, (step 0 st').2)) := by
              show _ = _; rw [HQ.out]; show (if (step 0 st').1 = true then _ else _) = _; rw [if_neg (by rw [hb]; simp)]
            have HPF : Hid (parseW (wordsOf s).length ⟨wordsOf s, 0, ⟨#[]⟩, [], []⟩ [] = .error (step 0 st').2.ws) := by
              show _ = _; rw [HP.out, HP2.out, HQ2.out]; rfl
            go_wp2_with (fail)
            refine (part0 R (R + 1) st' _ (Nat.lt_succ_self _) hzi HS'.out hss').mono ?_
            rintro e w2 ⟨rfl, hst2, hm2⟩
            have hB2 : Below w.heap.size w w2 := hbelF.trans ((hmi.trans hm2).upto hbelF.size (by simp; omega))
            have hsl := (step_small 0 hss').1.ws.len
            obtain ⟨hRz, ⟨hws, a', c', g0⟩ | ⟨x, r, b', o', c', hws, g0, g1, g2, g3⟩⟩ := hst2.left
            · have HR : Hid (parseR s = (([] : List Rule), ((s.size : Nat) : Int), (3 : Int))) := by show _ = _; unfold parseR; rw [HPF.out, hws]
              clear hws hst2
              go_wp2
              go_ret3
              rw [HR.out]
              exact ⟨_, rfl, IsRules.none _, hB2⟩
            · have HR : Hid (parseR s = (([] : List Rule), ((x.2 : Nat) : Int), (3 : Int))) := by show _ = _; unfold parseR; rw [HPF.out, hws]
              rw [hws] at hsl
              simp only [List.length_cons] at hsl
              clear hws hst2
              have hne : (((r.length + 1 : Nat) : Int) == 0) = false := by rw [beq_eq_false_iff_ne]; omega
              go_wp2
              go_quiet (fail)
              go_wp2
              go_ret3
              rw [HR.out]
              exact ⟨_, rfl, IsRules.none _, below_drewN hB2 _⟩
        · have hcf : wr.cell? ⟨wo.heap.size, 1, none⟩ = some (.func (.func 28) #[.pointer (some ⟨R, 0, none⟩)] #[]) := by simp [World.cell?, hFi, fnCells]
          clear hFi
          cases hb : (step 1 st').1 with
          | true =>
            have HQ2 : Hid (stepsFrom 0 5 st = stepsFrom 2 (5 - 2) (step 1 st').2) := by
              show _ = _; rw [HQ.out]; show (if (step 1 st').1 = true then _ else _) = _; rw [if_pos hb]
            go_wp2_with (fail)
            refine (part1 R (R + 1) st' _ (Nat.lt_succ_self _) hzi HS'.out hss').mono ?_
            rintro e w2 ⟨rfl, hst2, hm2⟩
            have HS2 := Lib.hid hst2
            clear hst2
            go_wp2
            go_roundw
            case rel => exact ⟨2, (step 1 st').2, by omega, rfl, HS2, (step_small 1 hss').1, HQ2, hmi.trans hm2⟩
            case measure => simp [intOf]
          | false =>
            have HQ2 : Hid (stepsFrom 0 5 st = (false, (step 1 st').2)) := by
              show _ = _; rw [HQ.out]; show (if (step 1 st').1 = true then _ else _) = _; rw [if_neg (by rw [hb]; simp)]
            have HPF : Hid (parseW (wordsOf s).length ⟨wordsOf s, 0, ⟨#[]⟩, [], []⟩ [] = .error (step 1 st').2.ws) := by
              show _ = _; rw [HP.out, HP2.out, HQ2.out]; rfl
            go_wp2_with (fail)
            refine (part1 R (R + 1) st' _ (Nat.lt_succ_self _) hzi HS'.out hss').mono ?_
            rintro e w2 ⟨rfl, hst2, hm2⟩
            have hB2 : Below w.heap.size w w2 := hbelF.trans ((hmi.trans hm2).upto hbelF.size (by simp; omega))
            have hsl := (step_small 1 hss').1.ws.len
            obtain ⟨hRz, ⟨hws, a', c', g0⟩ | ⟨x, r, b', o', c', hws, g0, g1, g2, g3⟩⟩ := hst2.left
            · have HR : Hid (parseR s = (([] : List Rule), ((s.size : Nat) : Int), (3 : Int))) := by show _ = _; unfold parseR; rw [HPF.out, hws]
              clear hws hst2
              go_wp2
              go_ret3
              rw [HR.out]
              exact ⟨_, rfl, IsRules.none _, hB2⟩
            · have HR : Hid (parseR s = (([] : List Rule), ((x.2 : Nat) : Int), (3 : Int))) := by show _ = _; unfold parseR; rw [HPF.out, hws]
              rw [hws] at hsl
              simp only [List.length_cons] at hsl
              clear hws hst2
              have hne : (((r.length + 1 : Nat) : Int) == 0) = false := by rw [beq_eq_false_iff_ne]; omega
              go_wp2
              go_quiet (fail)
              go_wp2
              go_ret3
              rw [HR.out]
              exact ⟨_, rfl, IsRules.none _, below_drewN hB2 _⟩
        · have hcf : wr.cell? ⟨wo.heap.size, 2, none⟩ = some (.func (.func 29) #[.pointer (some ⟨R, 0, none⟩)] #[]) := by simp [World.cell?, hFi, fnCells]
          clear hFi
          cases hb : (step 2 st').1 with
          | true =>
            have HQ2 : Hid (stepsFrom 0 5 st = stepsFrom 3 (5 - 3) (step 2 st').2) := by
              show _ = _; rw [HQ.out]; show (if (step 2 st').1 = true then _ else _) = _; rw [if_pos hb]
            go_wp2_with (fail)
            refine (part2 R (R + 1) st' _ (Nat.lt_succ_self _) hzi HS'.out hss').mono ?_
            rintro e w2 ⟨rfl, hst2, hm2⟩
            have HS2 := Lib.hid hst2
            clear hst2
            go_wp2
            go_roundw
            case rel => exact ⟨3, (step 2 st').2, by omega, rfl, HS2, (step_small 2 hss').1, HQ2, hmi.trans hm2⟩
            case measure => simp [intOf]
          | false =>
            have HQ2 : Hid (stepsFrom 0 5 st = (false, (step 2 st').2)) := by
              show _ = _; rw [HQ.out]; show (if (step 2 st').1 = true then _ else _) = _; rw [if_neg (by rw [hb]; simp)]
            have HPF : Hid (parseW (wordsOf s).length ⟨wordsOf s, 0, ⟨#[]⟩, [], []⟩ [] = .error (step 2 st').2.ws) := by
              show _ = _; rw [HP.out, HP2.out, HQ2.out]; rfl
            go_wp2_with (fail)
            refine (part2 R (R + 1) st' _ (Nat.lt_succ_self _) hzi HS'.out hss').mono ?_
            rintro e w2 ⟨rfl, hst2, hm2⟩
            have hB2 : Below w.heap.size w w2 := hbelF.trans ((hmi.trans hm2).upto hbelF.size (by simp; omega))
            have hsl := (step_small 2 hss').1.ws.len
            obtain ⟨hRz, ⟨hws, a', c', g0⟩ | ⟨x, r, b', o', c', hws, g0, g1, g2, g3⟩⟩ := hst2.left
            · have HR : Hid (parseR s = (([] : List Rule), ((s.size : Nat) : Int), (3 : Int))) := by show _ = _; unfold parseR; rw [HPF.out, hws]
              clear hws hst2
              go_wp2
              go_ret3
              rw [HR.out]
              exact ⟨_, rfl, IsRules.none _, hB2⟩
            · have HR : Hid (parseR s = (([] : List Rule), ((x.2 : Nat) : Int), (3 : Int))) := by show _ = _; unfold parseR; rw [HPF.out, hws]
              rw [hws] at hsl
              simp only [List.length_cons] at hsl
              clear hws hst2
              have hne : (((r.length + 1 : Nat) : Int) == 0) = false := by rw [beq_eq_false_iff_ne]; omega
              go_wp2
              go_quiet (fail)
              go_wp2
              go_ret3
              rw [HR.out]
              exact ⟨_, rfl, IsRules.none _, below_drewN hB2 _⟩
        · have hcf : wr.cell? ⟨wo.heap.size, 3, none⟩ = some (.func (.func 30) #[.pointer (some ⟨R, 0, none⟩)] #[]) := by simp [World.cell?, hFi, fnCells]
          clear hFi
          cases hb : (step 3 st').1 with
          | true =>
            have HQ2 : Hid (stepsFrom 0 5 st = stepsFrom 4 (5 - 4) (step 3 st').2) := by
              show _ = _; rw [HQ.out]; show (if (step 3 st').1 = true then _ else _) = _; rw [if_pos hb]
            go_wp2_with (fail)
            refine (part3 R (R + 1) st' _ (Nat.lt_succ_self _) hzi HS'.out hss').mono ?_
            rintro e w2 ⟨rfl, hst2, hm2⟩
            have HS2 := Lib.hid hst2
            clear hst2
            go_wp2
            go_roundw
            case rel => exact ⟨4, (step 3 st').2, by omega, rfl, HS2, (step_small 3 hss').1, HQ2, hmi.trans hm2⟩
            case measure => simp [intOf]
          | false =>
            have HQ2 : Hid (stepsFrom 0 5 st = (false, (step 3 st').2)) := by
              show _ = _; rw [HQ.out]; show (if (step 3 st').1 = true then _ else _) = _; rw [if_neg (by rw [hb]; simp)]
            have HPF : Hid (parseW (wordsOf s).length ⟨wordsOf s, 0, ⟨#[]⟩, [], []⟩ [] = .error (step 3 st').2.ws) := by
              show _ = _; rw [HP.out, HP2.out, HQ2.out]; rfl
            go_wp2_with (fail)
            refine (part3 R (R + 1) st' _ (Nat.lt_succ_self _) hzi HS'.out hss').mono ?_
            rintro e w2 ⟨rfl, hst2, hm2⟩
            have hB2 : Below w.heap.size w w2 := hbelF.trans ((hmi.trans hm2).upto hbelF.size (by simp; omega))
            have hsl := (step_small 3 hss').1.ws.len
            obtain ⟨hRz, ⟨hws, a', c', g0⟩ | ⟨x, r, b', o', c', hws, g0, g1, g2, g3⟩⟩ := hst2.left
            · have HR : Hid (parseR s = (([] : List Rule), ((s.size : Nat) : Int), (3 : Int))) := by show _ = _; unfold parseR; rw [HPF.out, hws]
              clear hws hst2
              go_wp2
              go_ret3
              rw [HR.out]
              exact ⟨_, rfl, IsRules.none _, hB2⟩
            · have HR : Hid (parseR s = (([] : List Rule), ((x.2 : Nat) : Int), (3 : Int))) := by show _ = _; unfold parseR; rw [HPF.out, hws]
              rw [hws] at hsl
              simp only [List.length_cons] at hsl
              clear hws hst2
              have hne : (((r.length + 1 : Nat) : Int) == 0) = false := by rw [beq_eq_false_iff_ne]; omega
              go_wp2
              go_quiet (fail)
              go_wp2
              go_ret3
              rw [HR.out]
              exact ⟨_, rfl, IsRules.none _, below_drewN hB2 _⟩
        · have hcf : wr.cell? ⟨wo.heap.size, 4, none⟩ = some (.func (.func 31) #[.pointer (some ⟨R, 0, none⟩)] #[]) := by simp [World.cell?, hFi, fnCells]
          clear hFi
          cases hb : (step 4 st').1 with
          | true =>
            have HQ2 : Hid (stepsFrom 0 5 st = stepsFrom 5 (5 - 5) (step 4 st').2) := by
              show _ = _; rw [HQ.out]; show (if (step 4 st').1 = true then _ else _) = _; rw [if_pos hb]
            go_wp2_with (fail)
            refine (part4 R (R + 1) st' _ (Nat.lt_succ_self _) hzi HS'.out hss').mono ?_
            rintro e w2 ⟨rfl, hst2, hm2⟩
            have HS2 := Lib.hid hst2
            clear hst2
            go_wp2
            go_roundw
            case rel => exact ⟨5, (step 4 st').2, by omega, rfl, HS2, (step_small 4 hss').1, HQ2, hmi.trans hm2⟩
            case measure => simp [intOf]
          | false =>
            have HQ2 : Hid (stepsFrom 0 5 st = (false, (step 4 st').2)) := by
              show _ = _; rw [HQ.out]; show (if (step 4 st').1 = true then _ else _) = _; rw [if_neg (by rw [hb]; simp)]
            have HPF : Hid (parseW (wordsOf s).length ⟨wordsOf s, 0, ⟨#[]⟩, [], []⟩ [] = .error (step 4 st').2.ws) := by
              show _ = _; rw [HP.out, HP2.out, HQ2.out]; rfl
            go_wp2_with (fail)
            refine (part4 R (R + 1) st' _ (Nat.lt_succ_self _) hzi HS'.out hss').mono ?_
            rintro e w2 ⟨rfl, hst2, hm2⟩
            have hB2 : Below w.heap.size w w2 := hbelF.trans ((hmi.trans hm2).upto hbelF.size (by simp; omega))
            have hsl := (step_small 4 hss').1.ws.len
            obtain ⟨hRz, ⟨hws, a', c', g0⟩ | ⟨x, r, b', o', c', hws, g0, g1, g2, g3⟩⟩ := hst2.left
            · have HR : Hid (parseR s = (([] : List Rule), ((s.size : Nat) : Int), (3 : Int))) := by show _ = _; unfold parseR; rw [HPF.out, hws]
              clear hws hst2
              go_wp2
              go_ret3
              rw [HR.out]
              exact ⟨_, rfl, IsRules.none _, hB2⟩
            · have HR : Hid (parseR s = (([] : List Rule), ((x.2 : Nat) : Int), (3 : Int))) := by show _ = _; unfold parseR; rw [HPF.out, hws]
              rw [hws] at hsl
              simp only [List.length_cons] at hsl
              clear hws hst2
              have hne : (((r.length + 1 : Nat) : Int) == 0) = false := by rw [beq_eq_false_iff_ne]; omega
              go_wp2
              go_quiet (fail)
              go_wp2
              go_ret3
              rw [HR.out]
              exact ⟨_, rfl, IsRules.none _, below_drewN hB2 _⟩
        · have HQ2 : Hid (stepsFrom 0 5 st = (true, st')) := HQ.out
          have hless := rule_less hss (by rw [HQ2.out])
          rw [HQ2.out] at hless
          have HPN : Hid (parseW (wordsOf s).length ⟨wordsOf s, 0, ⟨#[]⟩, [], []⟩ [] = parseW f st' (rs ++ [ruleOf st'])) := by
            show _ = _; rw [HP.out, HP2.out, HQ2.out]; rfl
          have hbwr : Below w.heap.size w wr := hbelF.trans (hmi.upto hbelF.size (by simp; omega))
          have hownr := owns_modR hownF hmi
          have HRCr : Hid (RC wr (R + 1) rs xs) := HRCF.out.modR hmi (Nat.lt_succ_self _)
          obtain ⟨v', dv, vv, hr, hw', hd', hv'⟩ := HS'.out
          obtain ⟨hRz, p0, p1, p2, p3, p4, _⟩ := hr.cells
          obtain ⟨ad, cd, rfl⟩ := hd'.1.val
          obtain ⟨av, cv, rfl⟩ := hv'.1.val
          have HD := Lib.hid hd'
          have HV := Lib.hid hv'
          clear hr hw' hd' hv' hFi hownF HRCF HF HSF
          go_wp2_with (at_builtin; refine wpList_append_own _ rfl _ _ 23 rfl (R + 1) 42 i0 _ 4 72 Tryd.underlying23 hi hz0 hz1 hz2 rfl (by decide) _ _ _ rfl (hownr.alloc _) ⟨wr.heap.size, 0, none⟩ 1 1 [.int .i64 st'.kd, .string st'.nm, .slice ad st'.ds.length cd, .slice av st'.vs.length cv] rfl rfl (cell_four _ _ _ _ _ _) (by simp [Value.oneCell']) (by unfold maxLen; omega) (by omega) (by simp; omega) ?_)
          intro lv' w3 hown3 hg3 _
          have hal := qalloc wr (.cells #[.int .i64 st'.kd, .string st'.nm, .slice ad st'.ds.length cd, .slice av st'.vs.length cv] 42)
          have hlow : ∀ b, u6.ownBlock = some b → R < b := fun b hb => by have := owns_block hownr hb; omega
          have htyp := owns_type (hownr.alloc (.cells #[.int .i64 st'.kd, .string st'.nm, .slice ad st'.ds.length cd, .slice av st'.vs.length cv] 42))
          have HS3 : Hid (StIs w3 R (R + 1) st') := (HS'.out.below hal (Nat.lt_succ_self _)).grown hg3 (by decide) htyp hlow
          have hmA : Mod [R] wr _ := Mod.of hal
          have HRC3 : Hid (RC w3 (R + 1) (rs ++ [ruleOf st']) (xs ++ [.int .i64 st'.kd, .string st'.nm, .slice ad st'.ds.length cd, .slice av st'.vs.length cv])) := by
            have q := (HRCr.out.modR hmA (Nat.lt_succ_self _)).grown hg3 (by decide) htyp
            have a1 := HD.out.1.modB HD.out.2 hmA (Nat.lt_succ_self _)
            have a2 := HV.out.1.modB HV.out.2 hmA (Nat.lt_succ_self _)
            exact RC.snoc (r := ruleOf st') (a1.1.grown a1.2 hg3 (by decide) htyp rfl) (a2.1.grown a2.2 hg3 (by decide) htyp rfl) q
          have hB3 : Below w.heap.size w w3 := (qtrans hbwr hal).grown hg3 (by have := hbwr.size; simp; omega) (fun k hk => by have := hlow k hk; omega)
          have hz3 : R + 1 ≤ w3.heap.size := by have := hg3.size; simp at this; omega
          have hWL3 : Hid (wordsLeft w3 R = st'.ws.length) := by
            obtain ⟨_, _, _, hr, hw', _, _⟩ := HS3.out
            exact wordsLeft_eq hr hw'
          have hsr' : SmallRs (rs ++ [ruleOf st']) := ⟨fun r hr => by
            rcases List.mem_append.1 hr with h | h
            · exact hsr.all r h
            · rw [List.mem_singleton.1 h]; exact hss'.rule⟩
          clear hg3 hal hlow htyp hmA hownr
          go_wp2
          go_roundw
          case rel => exact ⟨st', rs ++ [ruleOf st'], _, f, HS3, hss', hsr', by rw [List.length_append]; exact hown3, HRC3, hB3, hz3, by omega, by simp; omega, HPN⟩
          case measure => rw [hWL3.out, hWL.out]; exact hless
end Go.Proofs.YtgcmekpfhagnbaaDoor
