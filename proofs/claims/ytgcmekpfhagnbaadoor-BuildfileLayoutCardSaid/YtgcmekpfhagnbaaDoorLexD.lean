/- strings.SplitSeq at the slash, and lexer.Label. -/
import Derived.Test.YtgcmekpfhagnbaaDoorRF
import Derived.Test.YtgcmekpfhagnbaaDoorLexB
import Derived.Test.YtgcmekpfhagnbaaDoorLibA
namespace Go.Proofs.YtgcmekpfhagnbaaDoor
open Go.RowKit Go.Shelf
attribute [local go_sem] Oper.semAt_some

def bOf (l : List UInt8) : ByteArray := ⟨l.toArray⟩
theorem bOf_data (s : ByteArray) : bOf s.data.toList = s := rfl
theorem data_bOf (l : List UInt8) : (bOf l).data.toList = l := rfl
theorem bOf_inj {s t : ByteArray} (h : s.data.toList = t.data.toList) : s = t := by rw [← bOf_data s, ← bOf_data t, h]
/-- What the iterator over the parts of s hands out. -/
def partsOf (s : ByteArray) : List (Array Value) := (split s.data.toList).map fun l => #[.string (bOf l)]
theorem partsOf_some {s : ByteArray} (h : slashS s < s.size) : partsOf s = #[.string (s.extract 0 (slashS s))] :: partsOf (s.extract (slashS s + 1) s.size) := by
  unfold partsOf
  rw [split_some (by rw [sz]; exact h), List.map_cons, ex_end, ← ex_take]; rfl
theorem partsOf_none {s : ByteArray} (h : ¬ slashS s < s.size) : partsOf s = [#[.string s]] := by
  have : slashS s = s.size := by
    have : slashS s ≤ s.size := by rw [← sz]; exact slashAt_le _
    omega
  unfold partsOf
  rw [split_none (by rw [sz]; exact this)]; rfl
def cellLen (w : World) (a : Addr) : Nat := match w.cell? a with | some (.string t) => t.size | _ => 0
theorem cellLen_eq {w : World} {a : Addr} {t : ByteArray} (h : w.cell? a = some (.string t)) : cellLen w a = t.size := by simp [cellLen, h]
theorem drop_cons {α : Type} {l : List α} {k : Nat} {x : α} {r : List α} (h : l.drop k = x :: r) : ∃ hk : k < l.length, l[k] = x ∧ l.drop (k + 1) = r := by
  have hk : k < l.length := by
    refine Nat.lt_of_not_le fun hle => ?_
    rw [List.drop_eq_nil_of_le hle] at h; cases h
  rw [List.drop_eq_getElem_cons hk] at h
  cases h
  exact ⟨hk, rfl, rfl⟩

theorem splitSeq1_iter (s : ByteArray) (hs : s.size ≤ 40000) (w : World) (Bs Bp Bv n₀ : Nat) (hn : n₀ ≤ w.heap.size) (b1 : Bs < n₀) (b2 : Bp < n₀) (b3 : Bv < n₀) (hne1 : Bs ≠ Bp) (hne2 : Bs ≠ Bv)
    (c1 : w.cell? ⟨Bs, 0, none⟩ = some (.string s)) (f1 : w.frozen? ⟨Bs, 0, none⟩ = false) (c2 : w.cell? ⟨Bp, 0, none⟩ = some (.string ⟨#[47]⟩)) (c3 : w.cell? ⟨Bv, 0, none⟩ = some (.int .i64 0)) :
    Iter Fence.wide 4 Tryd.prog 94 #[.pointer (some ⟨Bp, 0, none⟩), .pointer (some ⟨Bs, 0, none⟩), .pointer (some ⟨Bv, 0, none⟩)] (partsOf s) n₀ (fun A B => ∃ v, B = A.setCell ⟨Bs, 0, none⟩ v) w := by
  intro l J Jx W hW hJ hJx hY h0
  have d1 : W.cell? ⟨Bs, 0, none⟩ = some (.string s) := (hW.cell (p := ⟨Bs, 0, none⟩) (by show Bs < _; omega)).trans c1
  have d2 : W.cell? ⟨Bp, 0, none⟩ = some (.string ⟨#[47]⟩) := (hW.cell (p := ⟨Bp, 0, none⟩) (by show Bp < _; omega)).trans c2
  have d3 : W.cell? ⟨Bv, 0, none⟩ = some (.int .i64 0) := (hW.cell (p := ⟨Bv, 0, none⟩) (by show Bv < _; omega)).trans c3
  have g1 : W.frozen? ⟨Bs, 0, none⟩ = false := (hW.frozen (p := ⟨Bs, 0, none⟩) (by show Bs < _; omega)).trans f1
  clear c1 f1 c2 c3 hW
  have HY := Lib.hid hY
  have HJ := Lib.hid hJ
  have HJx := Lib.hid hJx
  clear hY hJ hJx
  show CallsIn Fence.wide 4 Tryd.prog 94 #[.func (.yield l) #[] #[], .pointer (some ⟨Bp, 0, none⟩), .pointer (some ⟨Bs, 0, none⟩), .pointer (some ⟨Bv, 0, none⟩)] W _
  refine callsIn_of_wp Tryd.func94 rfl trivial ?_ rfl
  simp only [Tryd.ntmps94, List.size_toArray, List.length_cons, List.length_nil, Nat.reduceAdd, Nat.reduceSub, Array.replicate_succ, Array.replicate_zero, List.push_toArray, List.append_toArray, List.nil_append, List.cons_append]
  gi_wp2
  gi_loopw [7] (fun _ wr => ∃ (k : Nat) (t : ByteArray), t.size ≤ 40000 ∧ wr.cell? ⟨Bs, 0, none⟩ = some (.string t) ∧ wr.cell? ⟨Bp, 0, none⟩ = some (.string ⟨#[47]⟩) ∧ wr.cell? ⟨Bv, 0, none⟩ = some (.int .i64 0) ∧ wr.frozen? ⟨Bs, 0, none⟩ = false ∧ Hid ((partsOf s).drop k = partsOf t) ∧ J k wr)
    (fun _ wr => cellLen wr ⟨Bs, 0, none⟩)
  case atStart => exact ⟨0, s, hs, d1, d2, d3, g1, rfl, h0⟩
  case round =>
    obtain ⟨k, t, ht, e1, e2, e3, q1, HD, hJk⟩ := hrel
    clear d1 d2 d3 g1 h0
    by_cases hlt : slashS t < t.size
    · have HI : Hid (idxS t = slashS t) := by show _ = _; unfold idxS; rw [if_pos hlt]
      obtain ⟨hk, ha, hd⟩ := drop_cons (HD.out.trans (partsOf_some hlt))
      have HD2 := Lib.hid hd
      clear hd
      have hy := HY.out k hk wr hJk
      rw [ha] at hy
      obtain ⟨fn, tmps, assign, body, hy, hR⟩ := hy
      clear ha
      generalize hm : slashS t = m at *
      have HM := Lib.hid hm
      clear hm
      gi_wp2_with (refine ⟨trivial, ?_⟩; gi_at_call 84; refine (callsIn_wide.2 (Index_slash _ _)).mono ?_; rintro e w' ⟨rfl, rfl⟩; rw [HI.out])
      refine hR.mono ?_
      rintro e W3 (⟨rfl, hJ3, hk3⟩ | ⟨rfl, hJx3⟩)
      · have e1' : W3.cell? ⟨Bs, 0, none⟩ = some (.string t) := (hk3.cell (p := ⟨Bs, 0, none⟩) b1).trans e1
        have e2' : W3.cell? ⟨Bp, 0, none⟩ = some (.string ⟨#[47]⟩) := (hk3.cell (p := ⟨Bp, 0, none⟩) b2).trans e2
        have e3' : W3.cell? ⟨Bv, 0, none⟩ = some (.int .i64 0) := (hk3.cell (p := ⟨Bv, 0, none⟩) b3).trans e3
        have q1' : W3.frozen? ⟨Bs, 0, none⟩ = false := (hk3.frozen (p := ⟨Bs, 0, none⟩) b1).trans q1
        have hJ4 := Lib.hid (HJ.out (k + 1) W3 (W3.setCell ⟨Bs, 0, none⟩ (.string (t.extract (m + 1) t.size))) hJ3 ⟨_, rfl⟩)
        clear hR hy
        gi_wp2
        go_roundw
        case rel =>
          refine ⟨k + 1, t.extract (m + 1) t.size, by simp; omega, World.cell?_setCell_same' _ _ _ (by rw [e1']; rfl), ?_, ?_, ?_, ?_, hJ4.out⟩
          · rw [cell_far _ _ _ _ (by show Bp ≠ Bs; omega)]; exact e2'
          · rw [cell_far _ _ _ _ (by show Bv ≠ Bs; omega)]; exact e3'
          · rw [World.frozen?_setCell]; exact q1'
          · show _ = _
            rw [HD2.out]
        case measure =>
          rw [cellLen_eq e1, cellLen_eq (World.cell?_setCell_same' _ _ _ (by rw [e1']; rfl))]; simp; omega
      · gi_wp2
        refine bodyPost_ret (results_none rfl _ _ _) rfl ?_
        exact ⟨⟨_, rfl⟩, .inr ⟨k + 1, by omega, hJx3⟩⟩
    · have HI : Hid (idxS t = -1) := by show _ = _; unfold idxS; rw [if_neg hlt]
      obtain ⟨hk, ha, hd⟩ := drop_cons (HD.out.trans (partsOf_none hlt))
      have hlen : k + 1 = (partsOf s).length := by
        have := congrArg List.length hd
        rw [List.length_drop, List.length_nil] at this
        omega
      have HL := Lib.hid hlen
      clear hd hlen
      have hy := HY.out k hk wr hJk
      rw [ha] at hy
      obtain ⟨fn, tmps, assign, body, hy, hR⟩ := hy
      clear ha
      gi_wp2_with (refine ⟨trivial, ?_⟩; gi_at_call 84; refine (callsIn_wide.2 (Index_slash _ _)).mono ?_; rintro e w' ⟨rfl, rfl⟩; rw [HI.out])
      refine hR.mono ?_
      rintro e W3 (⟨rfl, hJ3, hk3⟩ | ⟨rfl, hJx3⟩)
      · clear hR hy
        gi_wp2
        go_end0
        exact ⟨⟨_, rfl⟩, .inl (by rw [← HL.out]; exact hJ3)⟩
      · clear hR hy
        gi_wp2
        go_end0
        exact ⟨⟨_, rfl⟩, .inr ⟨k + 1, by omega, hJx3⟩⟩
end Go.Proofs.YtgcmekpfhagnbaaDoor
