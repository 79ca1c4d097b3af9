/- Opening arguments: approvals, numbers; four and five arguments. -/
import Derived.Test.YtidkpnabdfiilaaGreatDoorQ17
import Derived.Test.YtidkpnabdfiilaaGreatDoorApB
import Derived.Deep.Strs
namespace Go.Proofs.YtidkpnabdfiilaaGreatDoor
open Go.RowKit Go.ChangeShapes

section
variable {H : Type} {enc : TypeId × Value → H} {P : Program} {w : World} {base : Nat} {spare : Nat → Bool} {held : Bool}
theorem trodAll_four {t0 t1 t2 t3 : TypeId} {args : Array Value} {ds : List (DataW H)} {ps : List MemPlace} (h : DataW.TrodAll enc P w base spare held [t0, t1, t2, t3] args.toList ds ps) :
    ∃ v0 v1 v2 v3 d0 d1 d2 d3 p0 p1 p2 p3, args = #[v0, v1, v2, v3] ∧ ds = [d0, d1, d2, d3] ∧ ps = p0 ++ p1 ++ p2 ++ p3 ∧ DataW.Trod enc P w base spare held t0 v0 d0 p0 ∧ DataW.Trod enc P w base spare held t1 v1 d1 p1 ∧ DataW.Trod enc P w base spare held t2 v2 d2 p2 ∧ DataW.Trod enc P w base spare held t3 v3 d3 p3 := by
  obtain ⟨v0, vs0, d0, ds0, p0, q0, hargs, rfl, rfl, h0, r0⟩ := trodAll_cons h
  obtain ⟨v1, vs1, d1, ds1, p1, q1, rfl, rfl, rfl, h1, r1⟩ := trodAll_cons r0
  obtain ⟨v2, vs2, d2, ds2, p2, q2, rfl, rfl, rfl, h2, r2⟩ := trodAll_cons r1
  obtain ⟨v3, vs3, d3, ds3, p3, q3, rfl, rfl, rfl, h3, r3⟩ := trodAll_cons r2
  obtain ⟨rfl, rfl, rfl⟩ := trodAll_nil r3
  exact ⟨v0, v1, v2, v3, d0, d1, d2, d3, p0, p1, p2, p3, by cases args; simp_all, rfl, by simp, h0, h1, h2, h3⟩
theorem trodAll_five {t0 t1 t2 t3 t4 : TypeId} {args : Array Value} {ds : List (DataW H)} {ps : List MemPlace} (h : DataW.TrodAll enc P w base spare held [t0, t1, t2, t3, t4] args.toList ds ps) :
    ∃ v0 v1 v2 v3 v4 d0 d1 d2 d3 d4 p0 p1 p2 p3 p4, args = #[v0, v1, v2, v3, v4] ∧ ds = [d0, d1, d2, d3, d4] ∧ ps = p0 ++ p1 ++ p2 ++ p3 ++ p4 ∧ DataW.Trod enc P w base spare held t0 v0 d0 p0 ∧ DataW.Trod enc P w base spare held t1 v1 d1 p1 ∧ DataW.Trod enc P w base spare held t2 v2 d2 p2 ∧ DataW.Trod enc P w base spare held t3 v3 d3 p3 ∧ DataW.Trod enc P w base spare held t4 v4 d4 p4 := by
  obtain ⟨v0, vs0, d0, ds0, p0, q0, hargs, rfl, rfl, h0, r0⟩ := trodAll_cons h
  obtain ⟨v1, vs1, d1, ds1, p1, q1, rfl, rfl, rfl, h1, r1⟩ := trodAll_cons r0
  obtain ⟨v2, vs2, d2, ds2, p2, q2, rfl, rfl, rfl, h2, r2⟩ := trodAll_cons r1
  obtain ⟨v3, vs3, d3, ds3, p3, q3, rfl, rfl, rfl, h3, r3⟩ := trodAll_cons r2
  obtain ⟨v4, vs4, d4, ds4, p4, q4, rfl, rfl, rfl, h4, r4⟩ := trodAll_cons r3
  obtain ⟨rfl, rfl, rfl⟩ := trodAll_nil r4
  exact ⟨v0, v1, v2, v3, v4, d0, d1, d2, d3, d4, p0, p1, p2, p3, p4, by cases args; simp_all, rfl, by simp, h0, h1, h2, h3, h4⟩
end
section
variable {H : Type} {enc : TypeId × Value → H} {w : World} {base : Nat} {held : Bool}
def SizedA (l : List Appr) : Prop := ∀ a ∈ l, a.who.size ≤ 9223372036854775807 ∧ a.saw.size ≤ 9223372036854775807
theorem three_of {cs : List Value} (h : cs.length = 3) : ∃ a b c, cs = [a, b, c] := by
  match cs, h with
  | [a, b, c], _ => exact ⟨a, b, c, rfl⟩
theorem open_num : Opens enc w base held 3 (fun n : Int => [.leaf (.int .i64 n)]) (fun _ => True) := fun fuel cs x h => by
  obtain ⟨n, hn, _, _⟩ := DataW.trod_int Tryz.underlying3 h
  rw [hn]
  exact ⟨n, ReadsL.cons (Reads.leaf' _ _ _) (ReadsL.nil _ _), trivial⟩
theorem open_appr : Opens enc w base held 51 apprT (fun a => a.who.size ≤ 9223372036854775807 ∧ a.saw.size ≤ 9223372036854775807) := fun fuel cs x h => by
  obtain ⟨y0, y1, y2, n, _, hlen, f0, f1, f2⟩ := Deep.trod_struct3 Tryz.underlying51 h
  rw [show Tryz.prog.cellsOf 51 = 3 by kernel_rfl] at hlen
  obtain ⟨c0, c1, c2, rfl⟩ := three_of hlen
  simp only [] at f0 f1 f2
  rw [show Tryz.prog.cellsOf 9 = 1 by kernel_rfl] at f0 f2
  rw [show Tryz.prog.cellsOf 3 = 1 by kernel_rfl] at f1
  obtain ⟨p, hp, hpz⟩ := open_str _ _ _ f0
  obtain ⟨m, hm, _⟩ := open_num _ _ _ f1
  obtain ⟨s, hs, hsz⟩ := open_str _ _ _ f2
  exact ⟨⟨p, m, s⟩, ReadsL.cons (ReadsL.one hp) (ReadsL.cons (ReadsL.one hm) (ReadsL.cons (ReadsL.one hs) (ReadsL.nil _ _))), hpz, hsz⟩
theorem open_apprs : Opens enc w base held 59 (fun l => [apprsT l]) SizedA :=
  open_row Tryz.underlying59 (by kernel_rfl) (by decide) (fun _ => rfl) open_appr
end
end Go.Proofs.YtidkpnabdfiilaaGreatDoor
