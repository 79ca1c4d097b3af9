/- Join and Split of buildfile and of the reference, for strings of up to 400 bytes. -/
import Derived.Test.YtgcmekpfhagnbaaDoorBfA
namespace Go.Proofs.YtgcmekpfhagnbaaDoor
open Go.RowKit

theorem rLabel_q (s : ByteArray) (w : World) (hs : s.size ≤ 1000) :
    Calls Tryd.prog 37 #[.string s] w fun e w' => e = .returned (.bool (labelS s)) ∧ Below w.heap.size w w' :=
  (rLabel_any s w hs).mono fun _ _ ⟨h1, h2⟩ => ⟨h1, h2 ▸ qrefl w⟩
theorem rName_q (s : ByteArray) (w : World) (hs : s.size ≤ 1000) :
    Calls Tryd.prog 38 #[.string s] w fun e w' => e = .returned (.bool (nameS s)) ∧ Below w.heap.size w w' :=
  (rName_any s w hs).mono fun _ _ ⟨h1, h2⟩ => ⟨h1, h2 ▸ qrefl w⟩
/-- The label of a target: the text and the error. -/
def joinR (d nm : ByteArray) : ByteArray × Int :=
  if (d.toList.isEmpty = false ∧ labelS d = false) ∨ nameS nm = false then (⟨#[]⟩, 6)
  else if d.toList.isEmpty = true then (nm, 0)
  else if labelS (d ++ ⟨#[47]⟩ ++ nm) = true then (d ++ ⟨#[47]⟩ ++ nm, 0) else (⟨#[]⟩, 4)
/-- A label's directory and name, and the error. -/
def splitR (s : ByteArray) : ByteArray × ByteArray × Int :=
  if labelS s = false then (⟨#[]⟩, ⟨#[]⟩, 6)
  else if lastSlS s < 0 then (⟨#[]⟩, s, 0)
  else (s.extract 0 (lastSlS s).toNat, s.extract ((lastSlS s).toNat + 1) s.size, 0)
def JoinPost (x : ByteArray × Int) (w : World) (e : Ending) (w' : World) : Prop := e = .returned (.tuple #[.string x.1, .int .i64 x.2]) ∧ Below w.heap.size w w'
def SplitPost (x : ByteArray × ByteArray × Int) (w : World) (e : Ending) (w' : World) : Prop := e = .returned (.tuple #[.string x.1, .string x.2.1, .int .i64 x.2.2]) ∧ Below w.heap.size w w'
theorem lastSlFrom_bd (l : List UInt8) : ∀ n, -1 ≤ lastSlFrom l n ∧ lastSlFrom l n < n
  | 0 => by simp [lastSlFrom]
  | n + 1 => by
    rw [lastSlFrom]
    have := lastSlFrom_bd l n
    split <;> omega
theorem empty_toList {d : ByteArray} (h : d.toList.isEmpty = true) : d.toList = [] := List.isEmpty_iff.1 h

theorem Join_any (d nm : ByteArray) (w : World) (hd : d.size ≤ 400) (hn : nm.size ≤ 400) :
    Calls Tryd.prog 15 #[.string d, .string nm] w (JoinPost (joinR d nm) w) := by
  have hsz : (d ++ ⟨#[47]⟩ ++ nm).size ≤ 1000 := by
    rw [ByteArray.size_append, ByteArray.size_append]
    show d.size + 1 + nm.size ≤ 1000
    omega
  cases h1 : d.toList.isEmpty with
  | true =>
    have h0 := empty_toList h1
    cases h3 : nameS nm with
    | false =>
      have HJ : Hid (joinR d nm = (⟨#[]⟩, 6)) := by show _ = _; unfold joinR; rw [if_pos (.inr h3)]
      clear h1
      go_enter Tryd.func15, Tryd.ntmps15
      go_wp2_with (go_at_call 36; refine (targetName_any _ _ (by omega)).mono ?_; rintro e w1 ⟨rfl, hb1⟩)
      go_ret2
      rw [HJ.out]
      exact ⟨rfl, hb1⟩
    | true =>
      have HJ : Hid (joinR d nm = (nm, 0)) := by show _ = _; unfold joinR; rw [if_neg (by rw [h1, h3]; simp), if_pos h1]
      clear h1
      go_enter Tryd.func15, Tryd.ntmps15
      go_wp2_with (go_at_call 36; refine (targetName_any _ _ (by omega)).mono ?_; rintro e w1 ⟨rfl, hb1⟩)
      go_ret2
      rw [HJ.out]
      exact ⟨rfl, hb1⟩
  | false =>
    cases h2 : labelS d with
    | false =>
      have HJ : Hid (joinR d nm = (⟨#[]⟩, 6)) := by show _ = _; unfold joinR; rw [if_pos (.inl ⟨h1, h2⟩)]
      go_enter Tryd.func15, Tryd.ntmps15
      go_wp2_with (go_at_call 35; refine (Label_any _ _ (by omega)).mono ?_; rintro e w1 ⟨rfl, hb1⟩)
      go_ret2
      rw [HJ.out]
      exact ⟨rfl, hb1⟩
    | true =>
      cases h3 : nameS nm with
      | false =>
        have HJ : Hid (joinR d nm = (⟨#[]⟩, 6)) := by show _ = _; unfold joinR; rw [if_pos (.inr h3)]
        go_enter Tryd.func15, Tryd.ntmps15
        go_wp2_with (first | (go_at_call 35; refine (Label_any _ _ (by omega)).mono ?_; rintro e w1 ⟨rfl, hb1⟩) | (go_at_call 36; refine (targetName_any _ _ (by omega)).mono ?_; rintro e w2 ⟨rfl, hb2⟩))
        go_ret2
        rw [HJ.out]
        exact ⟨rfl, qtrans hb1 hb2⟩
      | true =>
        have HJ : Hid (joinR d nm = if labelS (d ++ ⟨#[47]⟩ ++ nm) = true then (d ++ ⟨#[47]⟩ ++ nm, 0) else (⟨#[]⟩, 4)) := by show _ = _; unfold joinR; rw [if_neg (by rw [h1, h2, h3]; simp), if_neg (by rw [h1]; simp)]
        cases h4 : labelS (d ++ ⟨#[47]⟩ ++ nm) with
        | true =>
          have HK : Hid (joinR d nm = (d ++ ⟨#[47]⟩ ++ nm, 0)) := by show _ = _; rw [HJ.out, if_pos h4]
          go_enter Tryd.func15, Tryd.ntmps15
          go_wp2_with (fail)
          refine (Label_any _ _ (by omega)).mono ?_
          rintro e w1 ⟨rfl, hb1⟩
          go_wp2_with (fail)
          refine (targetName_any _ _ (by omega)).mono ?_
          rintro e w2 ⟨rfl, hb2⟩
          go_wp2_with (fail)
          refine (Label_any _ _ hsz).mono ?_
          rintro e w3 ⟨rfl, hb3⟩
          go_wp2
          go_ret2
          rw [HK.out]
          exact ⟨rfl, qtrans (qtrans hb1 hb2) hb3⟩
        | false =>
          have HK : Hid (joinR d nm = (⟨#[]⟩, 4)) := by show _ = _; rw [HJ.out, if_neg (by rw [h4]; simp)]
          go_enter Tryd.func15, Tryd.ntmps15
          go_wp2_with (fail)
          refine (Label_any _ _ (by omega)).mono ?_
          rintro e w1 ⟨rfl, hb1⟩
          go_wp2_with (fail)
          refine (targetName_any _ _ (by omega)).mono ?_
          rintro e w2 ⟨rfl, hb2⟩
          go_wp2_with (fail)
          refine (Label_any _ _ hsz).mono ?_
          rintro e w3 ⟨rfl, hb3⟩
          go_wp2
          go_ret2
          rw [HK.out]
          exact ⟨rfl, qtrans (qtrans hb1 hb2) hb3⟩
theorem rJoin_any (d nm : ByteArray) (w : World) (hd : d.size ≤ 400) (hn : nm.size ≤ 400) :
    Calls Tryd.prog 16 #[.string d, .string nm] w (JoinPost (joinR d nm) w) := by
  have hsz : (d ++ ⟨#[47]⟩ ++ nm).size ≤ 1000 := by
    rw [ByteArray.size_append, ByteArray.size_append]
    show d.size + 1 + nm.size ≤ 1000
    omega
  cases h1 : d.toList.isEmpty with
  | true =>
    have h0 := empty_toList h1
    cases h3 : nameS nm with
    | false =>
      have HJ : Hid (joinR d nm = (⟨#[]⟩, 6)) := by show _ = _; unfold joinR; rw [if_pos (.inr h3)]
      clear h1
      go_enter Tryd.func16, Tryd.ntmps16
      go_wp2_with (go_at_call 38; refine (rName_q _ _ (by omega)).mono ?_; rintro e w1 ⟨rfl, hb1⟩)
      go_ret2
      rw [HJ.out]
      exact ⟨rfl, hb1⟩
    | true =>
      have HJ : Hid (joinR d nm = (nm, 0)) := by show _ = _; unfold joinR; rw [if_neg (by rw [h1, h3]; simp), if_pos h1]
      clear h1
      go_enter Tryd.func16, Tryd.ntmps16
      go_wp2_with (go_at_call 38; refine (rName_q _ _ (by omega)).mono ?_; rintro e w1 ⟨rfl, hb1⟩)
      go_ret2
      rw [HJ.out]
      exact ⟨rfl, hb1⟩
  | false =>
    cases h2 : labelS d with
    | false =>
      have HJ : Hid (joinR d nm = (⟨#[]⟩, 6)) := by show _ = _; unfold joinR; rw [if_pos (.inl ⟨h1, h2⟩)]
      go_enter Tryd.func16, Tryd.ntmps16
      go_wp2_with (go_at_call 37; refine (rLabel_q _ _ (by omega)).mono ?_; rintro e w1 ⟨rfl, hb1⟩)
      go_ret2
      rw [HJ.out]
      exact ⟨rfl, hb1⟩
    | true =>
      cases h3 : nameS nm with
      | false =>
        have HJ : Hid (joinR d nm = (⟨#[]⟩, 6)) := by show _ = _; unfold joinR; rw [if_pos (.inr h3)]
        go_enter Tryd.func16, Tryd.ntmps16
        go_wp2_with (first | (go_at_call 37; refine (rLabel_q _ _ (by omega)).mono ?_; rintro e w1 ⟨rfl, hb1⟩) | (go_at_call 38; refine (rName_q _ _ (by omega)).mono ?_; rintro e w2 ⟨rfl, hb2⟩))
        go_ret2
        rw [HJ.out]
        exact ⟨rfl, qtrans hb1 hb2⟩
      | true =>
        have HJ : Hid (joinR d nm = if labelS (d ++ ⟨#[47]⟩ ++ nm) = true then (d ++ ⟨#[47]⟩ ++ nm, 0) else (⟨#[]⟩, 4)) := by show _ = _; unfold joinR; rw [if_neg (by rw [h1, h2, h3]; simp), if_neg (by rw [h1]; simp)]
        cases h4 : labelS (d ++ ⟨#[47]⟩ ++ nm) with
        | true =>
          have HK : Hid (joinR d nm = (d ++ ⟨#[47]⟩ ++ nm, 0)) := by show _ = _; rw [HJ.out, if_pos h4]
          go_enter Tryd.func16, Tryd.ntmps16
          go_wp2_with (fail)
          refine (rLabel_q _ _ (by omega)).mono ?_
          rintro e w1 ⟨rfl, hb1⟩
          go_wp2_with (fail)
          refine (rName_q _ _ (by omega)).mono ?_
          rintro e w2 ⟨rfl, hb2⟩
          go_wp2_with (fail)
          refine (rLabel_q _ _ hsz).mono ?_
          rintro e w3 ⟨rfl, hb3⟩
          go_wp2
          go_ret2
          rw [HK.out]
          exact ⟨rfl, qtrans (qtrans hb1 hb2) hb3⟩
        | false =>
          have HK : Hid (joinR d nm = (⟨#[]⟩, 4)) := by show _ = _; rw [HJ.out, if_neg (by rw [h4]; simp)]
          go_enter Tryd.func16, Tryd.ntmps16
          go_wp2_with (fail)
          refine (rLabel_q _ _ (by omega)).mono ?_
          rintro e w1 ⟨rfl, hb1⟩
          go_wp2_with (fail)
          refine (rName_q _ _ (by omega)).mono ?_
          rintro e w2 ⟨rfl, hb2⟩
          go_wp2_with (fail)
          refine (rLabel_q _ _ hsz).mono ?_
          rintro e w3 ⟨rfl, hb3⟩
          go_wp2
          go_ret2
          rw [HK.out]
          exact ⟨rfl, qtrans (qtrans hb1 hb2) hb3⟩
theorem Split_any (s : ByteArray) (w : World) (hs : s.size ≤ 400) :
    Calls Tryd.prog 17 #[.string s] w (SplitPost (splitR s) w) := by
  have hbd := lastSlFrom_bd s.data.toList s.size
  have hlo : -1 ≤ lastSlS s := hbd.1
  have hhi : lastSlS s < s.size := hbd.2
  clear hbd
  cases h1 : labelS s with
  | false =>
    have HJ : Hid (splitR s = (⟨#[]⟩, ⟨#[]⟩, 6)) := by show _ = _; unfold splitR; rw [if_pos h1]
    go_enter Tryd.func17, Tryd.ntmps17
    go_wp2_with (go_at_call 35; refine (Label_any _ _ (by omega)).mono ?_; rintro e w1 ⟨rfl, hb1⟩)
    go_ret3
    rw [HJ.out]
    exact ⟨rfl, hb1⟩
  | true =>
    by_cases h2 : lastSlS s < 0
    · have HJ : Hid (splitR s = (⟨#[]⟩, s, 0)) := by show _ = _; unfold splitR; rw [if_neg (by rw [h1]; simp), if_pos h2]
      go_enter Tryd.func17, Tryd.ntmps17
      go_wp2_with (first | (go_at_call 35; refine (Label_any _ _ (by omega)).mono ?_; rintro e w1 ⟨rfl, hb1⟩) | (go_at_call 39; refine (LastIndexByte_slash _ _ (by omega)).mono ?_; rintro e w2 ⟨rfl, rfl⟩))
      go_ret3
      rw [HJ.out]
      exact ⟨rfl, hb1⟩
    · obtain ⟨k, hk⟩ : ∃ k : Nat, lastSlS s = k := ⟨(lastSlS s).toNat, by omega⟩
      have HJ : Hid (splitR s = (s.extract 0 k, s.extract (k + 1) s.size, 0)) := by show _ = _; unfold splitR; rw [if_neg (by rw [h1]; simp), if_neg h2, hk, Int.toNat_natCast]
      have hks : k < s.size := by omega
      have HKK := Lib.hid hk
      clear hk h2 hlo hhi
      go_enter Tryd.func17, Tryd.ntmps17
      go_wp2_with (first | (go_at_call 35; refine (Label_any _ _ (by omega)).mono ?_; rintro e w1 ⟨rfl, hb1⟩) | (go_at_call 39; refine (LastIndexByte_slash _ _ (by omega)).mono ?_; rintro e w2 ⟨rfl, rfl⟩; rw [HKK.out]))
      go_quiet (fail)
      go_wp2
      go_ret3
      rw [HJ.out]
      exact ⟨rfl, below_drewN hb1 _⟩
theorem rSplit_any (s : ByteArray) (w : World) (hs : s.size ≤ 400) :
    Calls Tryd.prog 18 #[.string s] w (SplitPost (splitR s) w) := by
  have hbd := lastSlFrom_bd s.data.toList s.size
  have hlo : -1 ≤ lastSlS s := hbd.1
  have hhi : lastSlS s < s.size := hbd.2
  clear hbd
  cases h1 : labelS s with
  | false =>
    have HJ : Hid (splitR s = (⟨#[]⟩, ⟨#[]⟩, 6)) := by show _ = _; unfold splitR; rw [if_pos h1]
    go_enter Tryd.func18, Tryd.ntmps18
    go_wp2_with (go_at_call 37; refine (rLabel_q _ _ (by omega)).mono ?_; rintro e w1 ⟨rfl, hb1⟩)
    go_ret3
    rw [HJ.out]
    exact ⟨rfl, hb1⟩
  | true =>
    by_cases h2 : lastSlS s < 0
    · have HJ : Hid (splitR s = (⟨#[]⟩, s, 0)) := by show _ = _; unfold splitR; rw [if_neg (by rw [h1]; simp), if_pos h2]
      go_enter Tryd.func18, Tryd.ntmps18
      go_wp2_with (first | (go_at_call 37; refine (rLabel_q _ _ (by omega)).mono ?_; rintro e w1 ⟨rfl, hb1⟩) | (go_at_call 40; refine (rslash_any _ _ (by omega)).mono ?_; rintro e w2 ⟨rfl, rfl⟩))
      go_ret3
      rw [HJ.out]
      exact ⟨rfl, hb1⟩
    · obtain ⟨k, hk⟩ : ∃ k : Nat, lastSlS s = k := ⟨(lastSlS s).toNat, by omega⟩
      have HJ : Hid (splitR s = (s.extract 0 k, s.extract (k + 1) s.size, 0)) := by show _ = _; unfold splitR; rw [if_neg (by rw [h1]; simp), if_neg h2, hk, Int.toNat_natCast]
      have hks : k < s.size := by omega
      have HKK := Lib.hid hk
      clear hk h2 hlo hhi
      go_enter Tryd.func18, Tryd.ntmps18
      go_wp2_with (first | (go_at_call 37; refine (rLabel_q _ _ (by omega)).mono ?_; rintro e w1 ⟨rfl, hb1⟩) | (go_at_call 40; refine (rslash_any _ _ (by omega)).mono ?_; rintro e w2 ⟨rfl, rfl⟩; rw [HKK.out]))
      go_quiet (fail)
      go_wp2
      go_ret3
      rw [HJ.out]
      exact ⟨rfl, below_drewN hb1 _⟩
end Go.Proofs.YtgcmekpfhagnbaaDoor
