/- Lists of edits that came in, read, with how much they hold. -/
import Derived.Test.YtlcpdhionefmbaaGreatDoorG9
namespace Go.Proofs.YtlcpdhionefmbaaGreatDoor
open Go.RowKit Go.ChangeShapes Go.WideShapes

section
variable {H : Type} {enc : TypeId × Value → H} {P : Program} {w : World} {base : Nat} {spare : Nat → Bool} {held : Bool}
theorem trodAll_five {t0 t1 t2 t3 t4 : TypeId} {args : Array Value} {ds : List (DataW H)} {ps : List MemPlace} (h : DataW.TrodAll enc P w base spare held [t0, t1, t2, t3, t4] args.toList ds ps) :
    ∃ v0 v1 v2 v3 v4 d0 d1 d2 d3 d4 p0 p1 p2 p3 p4, args = #[v0, v1, v2, v3, v4] ∧ ds = [d0, d1, d2, d3, d4] ∧ ps = p0 ++ p1 ++ p2 ++ p3 ++ p4 ∧ DataW.Trod enc P w base spare held t0 v0 d0 p0 ∧ DataW.Trod enc P w base spare held t1 v1 d1 p1 ∧ DataW.Trod enc P w base spare held t2 v2 d2 p2 ∧ DataW.Trod enc P w base spare held t3 v3 d3 p3 ∧ DataW.Trod enc P w base spare held t4 v4 d4 p4 := by
  obtain ⟨v0, vs0, d0, ds0, p0, q0, hargs, rfl, rfl, h0, r0⟩ := trodAll_cons h
  obtain ⟨v1, vs1, d1, ds1, p1, q1, rfl, rfl, rfl, h1, r1⟩ := trodAll_cons r0
  obtain ⟨v2, vs2, d2, ds2, p2, q2, rfl, rfl, rfl, h2, r2⟩ := trodAll_cons r1
  obtain ⟨v3, vs3, d3, ds3, p3, q3, rfl, rfl, rfl, h3, r3⟩ := trodAll_cons r2
  obtain ⟨v4, vs4, d4, ds4, p4, q4, rfl, rfl, rfl, h4, r4⟩ := trodAll_cons r3
  obtain ⟨rfl, rfl, rfl⟩ := trodAll_nil r4
  exact ⟨v0, v1, v2, v3, v4, d0, d1, d2, d3, d4, p0, p1, p2, p3, p4, by cases args; simp_all, rfl, by simp, h0, h1, h2, h3, h4⟩
end
section
variable {H : Type} {enc : TypeId × Value → H} {w : World} {base : Nat} {held : Bool}
theorem bulk_pos (d : DataW H) : 1 ≤ Rows.uptoBulk d := by
  cases d <;> first | (simp [Rows.uptoBulk]; done) | (rename_i q; cases q <;> simp [Rows.uptoBulk])
theorem opb_edits (fuel : Nat) : OpB enc w base held fuel 26 (fun l => [rowT 5 editT l]) (AllB fun B e => 1 ≤ B ∧ EditB B e) :=
  opb_row Tryz.underlying26 (by kernel_rfl) (by decide) (fun _ => rfl) (fun g _ cs x h => by
    obtain ⟨e, h1, h2⟩ := opb_edit g cs x h
    exact ⟨e, h1, bulk_pos _, h2⟩)
end
theorem edits_big {B : Nat} {l : List OEdit} (h : AllB (fun B e => 1 ≤ B ∧ EditB B e) B l) (hB : B ≤ 4000000) : (∀ e ∈ l, BigE e) ∧ l.length ≤ 4000000 := by
  refine ⟨fun e he => ?_, ?_⟩
  · obtain ⟨b, h1, _, h2⟩ := allB_mem h e he
    exact editB_big h2 (by omega)
  · obtain ⟨bs, h1, h2, h3⟩ := h
    have : ∀ (bs : List Nat) (l : List OEdit), bs.length = l.length → (∀ (i : Nat) (b : Nat) (a : OEdit), bs[i]? = some b → l[i]? = some a → 1 ≤ b) → l.length ≤ bs.sum := by
      intro bs
      induction bs with
      | nil => intro l hl _; simp at hl; rw [← hl]; exact Nat.zero_le _
      | cons b bs ih =>
        intro l hl h
        match l, hl with
        | x :: r, hl =>
          rw [List.sum_cons, List.length_cons]
          have a1 := h 0 b x rfl rfl
          have a2 := ih r (by simpa using hl) (fun i b' a hb ha => h (i + 1) b' a (by simpa using hb) (by simpa using ha))
          omega
    have := this bs l h1 (fun i b a hb ha => (h3 i b a hb ha).1)
    omega
end Go.Proofs.YtlcpdhionefmbaaGreatDoor
