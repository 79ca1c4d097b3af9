/- Declarations and edits that came in, read, with how much they hold. -/
import Derived.Test.YtlcpdhionefmbaaGreatDoorG5
import Derived.Test.YtlcpdhionefmbaaGreatDoorSEz
namespace Go.Proofs.YtlcpdhionefmbaaGreatDoor
open Go.RowKit Go.ChangeShapes Go.WideShapes

section
variable {H : Type} {enc : TypeId × Value → H} {w : World} {base : Nat} {held : Bool}
theorem allB_mem {α : Type} {P : Nat → α → Prop} {B : Nat} {l : List α} (h : AllB P B l) : ∀ a ∈ l, ∃ b, b ≤ B ∧ P b a := by
  obtain ⟨bs, h1, h2, h3⟩ := h
  intro a ha
  obtain ⟨i, hi, rfl⟩ := List.getElem_of_mem ha
  have hib : i < bs.length := by omega
  exact ⟨bs[i], by have := mem_sum (List.getElem_mem hib); omega, h3 i _ _ (List.getElem?_eq_getElem hib) (List.getElem?_eq_getElem hi)⟩
def DeclB (B : Nat) (d : ODecl) : Prop := SmX B d.body ∧ nodesN d.body ≤ B ∧ ∀ s ∈ d.names, s.size ≤ B
theorem five_of {α : Type} {l : List α} (h : l.length = 5) : ∃ a b c d e, l = [a, b, c, d, e] := by
  match l, h with
  | [a, b, c, d, e], _ => exact ⟨a, b, c, d, e, rfl⟩
theorem eleven_of {α : Type} {l : List α} (h : l.length = 11) : ∃ a b c d e f g i j k m, l = [a, b, c, d, e, f, g, i, j, k, m] := by
  match l, h with
  | [a, b, c, d, e, f, g, i, j, k, m], _ => exact ⟨a, b, c, d, e, f, g, i, j, k, m, rfl⟩
set_option maxRecDepth 100000 in
theorem opb_decl (fuel : Nat) : OpB enc w base held fuel 50 declT DeclB := by
  intro cs x h
  obtain ⟨xs, n, hfu, rfl, hlen, hxl, hfl⟩ := DataW.trod_struct Tryz.underlying50 h
  rw [show Tryz.prog.cellsOf 50 = 11 by kernel_rfl] at hlen
  obtain ⟨c0, c1, c2, c3, c4, c5, c6, c7, c8, c9, c10, rfl⟩ := eleven_of hlen
  obtain ⟨y0, y1, y2, y3, y4, y5, rfl⟩ := six_of (show xs.length = 6 from hxl)
  have e1 : Tryz.prog.cellsOf 3 = 1 := by kernel_rfl
  have e2 : Tryz.prog.cellsOf 4 = 1 := by kernel_rfl
  have e3 : Tryz.prog.cellsOf 45 = 1 := by kernel_rfl
  have e4 : Tryz.prog.cellsOf 48 = 6 := by kernel_rfl
  have g0 : DataW.trod enc Tryz.prog w base (fun _ => true) held n 3 (([c0, c1, c2, c3, c4, c5, c6, c7, c8, c9, c10].drop 0).take (Tryz.prog.cellsOf 3)) = some y0 := hfl 0 _ rfl
  have g1 : DataW.trod enc Tryz.prog w base (fun _ => true) held n 3 (([c0, c1, c2, c3, c4, c5, c6, c7, c8, c9, c10].drop 1).take (Tryz.prog.cellsOf 3)) = some y1 := hfl 1 _ rfl
  have g2 : DataW.trod enc Tryz.prog w base (fun _ => true) held n 4 (([c0, c1, c2, c3, c4, c5, c6, c7, c8, c9, c10].drop 2).take (Tryz.prog.cellsOf 4)) = some y2 := hfl 2 _ rfl
  have g3 : DataW.trod enc Tryz.prog w base (fun _ => true) held n 45 (([c0, c1, c2, c3, c4, c5, c6, c7, c8, c9, c10].drop 3).take (Tryz.prog.cellsOf 45)) = some y3 := hfl 3 _ rfl
  have g4 : DataW.trod enc Tryz.prog w base (fun _ => true) held n 4 (([c0, c1, c2, c3, c4, c5, c6, c7, c8, c9, c10].drop 4).take (Tryz.prog.cellsOf 4)) = some y4 := hfl 4 _ rfl
  have g5 : DataW.trod enc Tryz.prog w base (fun _ => true) held n 48 (([c0, c1, c2, c3, c4, c5, c6, c7, c8, c9, c10].drop 5).take (Tryz.prog.cellsOf 48)) = some y5 := hfl 5 _ rfl
  rw [e1] at g0 g1
  rw [e2] at g2 g4
  rw [e3] at g3
  rw [e4] at g5
  obtain ⟨i, hi, ii⟩ := opb_int _ _ _ g0
  obtain ⟨k, hk, ik⟩ := opb_int _ _ _ g1
  obtain ⟨p, hp, ip⟩ := opb_bool _ _ _ g2
  obtain ⟨ns, hns, ins⟩ := opb_row (f := fun s => [strT s]) (P := fun B (s : ByteArray) => s.size + 1 ≤ B) (enc := enc) (w := w) (base := base) (held := held) (fuel := n) Tryz.underlying45 (by kernel_rfl) (by decide) (fun _ => rfl) (fun g _ => opb_str g) _ _ g3
  obtain ⟨q, hq, iq⟩ := opb_bool _ _ _ g4
  obtain ⟨b, hb, ib1, ib2⟩ := opb_expr _ _ _ g5
  have hB : Rows.uptoBulk (DataW.agg [y0.1, y1.1, y2.1, y3.1, y4.1, y5.1]) = Rows.uptoBulk y0.1 + (Rows.uptoBulk y1.1 + (Rows.uptoBulk y2.1 + (Rows.uptoBulk y3.1 + (Rows.uptoBulk y4.1 + (Rows.uptoBulk y5.1 + 0))))) + 1 := by
    simp only [Rows.uptoBulk, Rows.uptoBulkAll]
  refine ⟨⟨i, k, p, ns, q, b⟩, ?_, ?_⟩
  · exact ReadsL.cons (ReadsL.one hi) (ReadsL.cons (ReadsL.one hk) (ReadsL.cons (ReadsL.one hp) (ReadsL.cons (ReadsL.one hns) (ReadsL.cons (ReadsL.one hq) hb))))
  · show DeclB (Rows.uptoBulk (DataW.agg [y0.1, y1.1, y2.1, y3.1, y4.1, y5.1])) _
    rw [hB]
    refine ⟨ib2.mono (by omega), Nat.le_trans ib1 (by omega), fun s hs => ?_⟩
    obtain ⟨b', h1, h2⟩ := allB_mem ins s hs
    omega
def EditB (B : Nat) (e : OEdit) : Prop := e.pack.size ≤ B ∧ e.text.size ≤ B ∧ (∀ d ∈ e.old, ∃ b, b ≤ B ∧ DeclB b d) ∧ ∀ d ∈ e.fresh, ∃ b, b ≤ B ∧ DeclB b d
set_option maxRecDepth 100000 in
theorem opb_edit (fuel : Nat) : OpB enc w base held fuel 24 editT EditB := by
  intro cs x h
  obtain ⟨xs, n, hfu, rfl, hlen, hxl, hfl⟩ := DataW.trod_struct Tryz.underlying24 h
  rw [show Tryz.prog.cellsOf 24 = 5 by kernel_rfl] at hlen
  obtain ⟨c0, c1, c2, c3, c4, rfl⟩ := five_of hlen
  obtain ⟨y0, y1, y2, y3, y4, rfl⟩ := five_of (show xs.length = 5 from hxl)
  have e1 : Tryz.prog.cellsOf 3 = 1 := by kernel_rfl
  have e2 : Tryz.prog.cellsOf 9 = 1 := by kernel_rfl
  have e3 : Tryz.prog.cellsOf 22 = 1 := by kernel_rfl
  have g0 : DataW.trod enc Tryz.prog w base (fun _ => true) held n 3 (([c0, c1, c2, c3, c4].drop 0).take (Tryz.prog.cellsOf 3)) = some y0 := hfl 0 _ rfl
  have g1 : DataW.trod enc Tryz.prog w base (fun _ => true) held n 9 (([c0, c1, c2, c3, c4].drop 1).take (Tryz.prog.cellsOf 9)) = some y1 := hfl 1 _ rfl
  have g2 : DataW.trod enc Tryz.prog w base (fun _ => true) held n 9 (([c0, c1, c2, c3, c4].drop 2).take (Tryz.prog.cellsOf 9)) = some y2 := hfl 2 _ rfl
  have g3 : DataW.trod enc Tryz.prog w base (fun _ => true) held n 22 (([c0, c1, c2, c3, c4].drop 3).take (Tryz.prog.cellsOf 22)) = some y3 := hfl 3 _ rfl
  have g4 : DataW.trod enc Tryz.prog w base (fun _ => true) held n 22 (([c0, c1, c2, c3, c4].drop 4).take (Tryz.prog.cellsOf 22)) = some y4 := hfl 4 _ rfl
  rw [e1] at g0
  rw [e2] at g1 g2
  rw [e3] at g3 g4
  obtain ⟨k, hk, ik⟩ := opb_int _ _ _ g0
  obtain ⟨p, hp, ip⟩ := opb_str _ _ _ g1
  obtain ⟨t, ht, it⟩ := opb_str _ _ _ g2
  obtain ⟨o, ho, io⟩ := opb_row (enc := enc) (w := w) (base := base) (held := held) (fuel := n) Tryz.underlying22 (by kernel_rfl) (by decide) declT_len (fun g _ => opb_decl g) _ _ g3
  obtain ⟨f, hf, jf⟩ := opb_row (enc := enc) (w := w) (base := base) (held := held) (fuel := n) Tryz.underlying22 (by kernel_rfl) (by decide) declT_len (fun g _ => opb_decl g) _ _ g4
  have hB : Rows.uptoBulk (DataW.agg [y0.1, y1.1, y2.1, y3.1, y4.1]) = Rows.uptoBulk y0.1 + (Rows.uptoBulk y1.1 + (Rows.uptoBulk y2.1 + (Rows.uptoBulk y3.1 + (Rows.uptoBulk y4.1 + 0)))) + 1 := by
    simp only [Rows.uptoBulk, Rows.uptoBulkAll]
  refine ⟨⟨k, p, t, o, f⟩, ?_, ?_⟩
  · exact ReadsL.cons (ReadsL.one hk) (ReadsL.cons (ReadsL.one hp) (ReadsL.cons (ReadsL.one ht) (ReadsL.cons (ReadsL.one ho) (ReadsL.cons (ReadsL.one hf) (ReadsL.nil _ _)))))
  · show EditB (Rows.uptoBulk (DataW.agg [y0.1, y1.1, y2.1, y3.1, y4.1])) _
    rw [hB]
    refine ⟨by show p.size ≤ _; omega, by show t.size ≤ _; omega, fun d hd => ?_, fun d hd => ?_⟩
    · obtain ⟨b, h1, h2⟩ := allB_mem io d hd
      exact ⟨b, by omega, h2⟩
    · obtain ⟨b, h1, h2⟩ := allB_mem jf d hd
      exact ⟨b, by omega, h2⟩
end
theorem declB_big {B : Nat} {d : ODecl} (h : DeclB B d) (hB : B ≤ 4000000) : BigD d := ⟨h.1.mono (by omega), by have := h.2.1; omega, fun s hs => by have := h.2.2 s hs; omega⟩
theorem editB_big {B : Nat} {e : OEdit} (h : EditB B e) (hB : B ≤ 4000000) : BigE e :=
  ⟨by have := h.1; omega, by have := h.2.1; omega, fun d hd => by obtain ⟨b, h1, h2⟩ := h.2.2.1 d hd; exact declB_big h2 (by omega), fun d hd => by obtain ⟨b, h1, h2⟩ := h.2.2.2 d hd; exact declB_big h2 (by omega)⟩
/-- An edit that came in as an argument. -/
theorem edit_in {w : World} {e : OEdit} {cs : List Value} (h : ReadsL w [] (editT e) cs) : ∃ ao co af cf, cs = [.int .i64 e.kind, .string e.pack, .string e.text, .slice ao e.old.length co, .slice af e.fresh.length cf] ∧ EditIn w e ao co af cf := by
  obtain ⟨ao, co, an, cn, h1, h2, h3, h4, h5, h6, h7⟩ := edit_cells h
  exact ⟨ao, co, an, cn, h1, ⟨h4, h7, h2, h3, h5, h6⟩⟩
end Go.Proofs.YtlcpdhionefmbaaGreatDoor
