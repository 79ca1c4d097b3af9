/- Declarations: equal or not; the fields that an edit mentions. -/
import Derived.Test.YtlcpdhionefmbaaGreatDoorSEd
import Derived.Test.YtlcpdhionefmbaaGreatDoorT4
namespace Go.Proofs.YtlcpdhionefmbaaGreatDoor
open Go.RowKit Go.Shelf
attribute [local go_sem] Oper.semAt_some

/-- What a declaration's value leads to. -/
structure DeclIn (w : World) (d : ODecl) (an : Option Addr) (cn : Nat) (sa : Option Addr) (cs : Nat) : Prop where
  names : Reads w [] (strsT d.names) (.slice an d.names.length cn)
  subs : Reads w [] (subsT d.body.subs) (.slice sa d.body.subs.length cs)
  hn1 : d.names.length ≤ cn
  hn2 : cn ≤ 9223372036854775807
  hs1 : d.body.subs.length ≤ cs
  hs2 : cs ≤ 9223372036854775807
theorem DeclIn.below {w w' : World} {d : ODecl} {an : Option Addr} {cn : Nat} {sa : Option Addr} {cs : Nat} (h : DeclIn w d an cn sa cs) (m : Below w.heap.size w w') : DeclIn w' d an cn sa cs := ⟨h.names.below m, h.subs.below m, h.hn1, h.hn2, h.hs1, h.hs2⟩

set_option maxHeartbeats 1000000 in
theorem equalHead_any (d f : ODecl) (an : Option Addr) (cn : Nat) (sa : Option Addr) (cs : Nat) (bn : Option Addr) (cm : Nat) (sb : Option Addr) (ct : Nat) (w : World) :
    Calls Tryz.prog 58 #[declV d an cn sa cs, declV f bn cm sb ct] w fun e w' => e = .returned (.bool (sameHd d f)) ∧ Below w.heap.size w w' := by
  have HB1 : Hid (CBox ((w.alloc (.cells #[.int .i64 d.id, .int .i64 d.kind, .bool d.pub, .slice an d.names.length cn, .bool d.doubt, .int .i64 d.body.kind, .string d.body.name, .string d.body.more, .int .i64 d.body.num, .int .i64 d.body.den, .slice sa d.body.subs.length cs] 50)).alloc (.cells #[.int .i64 f.id, .int .i64 f.kind, .bool f.pub, .slice bn f.names.length cm, .bool f.doubt, .int .i64 f.body.kind, .string f.body.name, .string f.body.more, .int .i64 f.body.num, .int .i64 f.body.den, .slice sb f.body.subs.length ct] 50)) w.heap.size 50 #[.int .i64 d.id, .int .i64 d.kind, .bool d.pub, .slice an d.names.length cn, .bool d.doubt, .int .i64 d.body.kind, .string d.body.name, .string d.body.more, .int .i64 d.body.num, .int .i64 d.body.den, .slice sa d.body.subs.length cs]) := (CBox.new w 50 #[.int .i64 d.id, .int .i64 d.kind, .bool d.pub, .slice an d.names.length cn, .bool d.doubt, .int .i64 d.body.kind, .string d.body.name, .string d.body.more, .int .i64 d.body.num, .int .i64 d.body.den, .slice sa d.body.subs.length cs]).alloc _
  have HB2 : Hid (CBox ((w.alloc (.cells #[.int .i64 d.id, .int .i64 d.kind, .bool d.pub, .slice an d.names.length cn, .bool d.doubt, .int .i64 d.body.kind, .string d.body.name, .string d.body.more, .int .i64 d.body.num, .int .i64 d.body.den, .slice sa d.body.subs.length cs] 50)).alloc (.cells #[.int .i64 f.id, .int .i64 f.kind, .bool f.pub, .slice bn f.names.length cm, .bool f.doubt, .int .i64 f.body.kind, .string f.body.name, .string f.body.more, .int .i64 f.body.num, .int .i64 f.body.den, .slice sb f.body.subs.length ct] 50)) (w.heap.size + 1) 50 #[.int .i64 f.id, .int .i64 f.kind, .bool f.pub, .slice bn f.names.length cm, .bool f.doubt, .int .i64 f.body.kind, .string f.body.name, .string f.body.more, .int .i64 f.body.num, .int .i64 f.body.den, .slice sb f.body.subs.length ct]) := by
    have := CBox.new (w.alloc (.cells #[.int .i64 d.id, .int .i64 d.kind, .bool d.pub, .slice an d.names.length cn, .bool d.doubt, .int .i64 d.body.kind, .string d.body.name, .string d.body.more, .int .i64 d.body.num, .int .i64 d.body.den, .slice sa d.body.subs.length cs] 50)) 50 #[.int .i64 f.id, .int .i64 f.kind, .bool f.pub, .slice bn f.names.length cm, .bool f.doubt, .int .i64 f.body.kind, .string f.body.name, .string f.body.more, .int .i64 f.body.num, .int .i64 f.body.den, .slice sb f.body.subs.length ct]
    rwa [World.size_alloc] at this
  have hA : Below w.heap.size w ((w.alloc (.cells #[.int .i64 d.id, .int .i64 d.kind, .bool d.pub, .slice an d.names.length cn, .bool d.doubt, .int .i64 d.body.kind, .string d.body.name, .string d.body.more, .int .i64 d.body.num, .int .i64 d.body.den, .slice sa d.body.subs.length cs] 50)).alloc (.cells #[.int .i64 f.id, .int .i64 f.kind, .bool f.pub, .slice bn f.names.length cm, .bool f.doubt, .int .i64 f.body.kind, .string f.body.name, .string f.body.more, .int .i64 f.body.num, .int .i64 f.body.den, .slice sb f.body.subs.length ct] 50)) := qtrans (qalloc _ _) (qalloc _ _)
  have HT : Hid (sameHd d f = (d.kind == f.kind && (d.pub == f.pub && d.doubt == f.doubt))) := rfl
  obtain ⟨k1, k2, k3, e1, e2, e3⟩ : ∃ k1 k2 k3, (d.kind == f.kind) = k1 ∧ (d.pub == f.pub) = k2 ∧ (d.doubt == f.doubt) = k3 := ⟨_, _, _, rfl, rfl, rfl⟩
  rw [e1, e2, e3] at HT
  generalize sameHd d f = T at *
  clear HB1 HB2
  unfold declV
  cases k1 with
  | false =>
    go_enter Tryz.func58, Tryz.ntmps58
    go_wp2
    go_ret
    exact ⟨ret_bool HT.out.symm, hA⟩
  | true =>
    cases k2 with
    | false =>
      go_enter Tryz.func58, Tryz.ntmps58
      go_wp2
      go_ret
      exact ⟨ret_bool HT.out.symm, hA⟩
    | true =>
      cases k3 with
      | false =>
        go_enter Tryz.func58, Tryz.ntmps58
        go_wp2
        go_ret
        exact ⟨ret_bool HT.out.symm, hA⟩
      | true =>
        go_enter Tryz.func58, Tryz.ntmps58
        go_wp2
        go_ret
        exact ⟨ret_bool HT.out.symm, hA⟩

set_option maxHeartbeats 4000000 in
theorem equalDecl_any (d f : ODecl) (an : Option Addr) (cn : Nat) (sa : Option Addr) (cs : Nat) (bn : Option Addr) (cm : Nat) (sb : Option Addr) (ct : Nat) (w : World) (hd : DeclIn w d an cn sa cs) (hf : DeclIn w f bn cm sb ct) (hsd : d.names.length ≤ 1000000) (hN : nodesN d.body ≤ 1000000) :
    Calls Tryz.prog 46 #[declV d an cn sa cs, declV f bn cm sb ct] w fun e w' => e = .returned (.bool (sameD d f)) ∧ Below w.heap.size w w' := by
  have HB1 : Hid (CBox ((w.alloc (.cells #[.int .i64 d.id, .int .i64 d.kind, .bool d.pub, .slice an d.names.length cn, .bool d.doubt, .int .i64 d.body.kind, .string d.body.name, .string d.body.more, .int .i64 d.body.num, .int .i64 d.body.den, .slice sa d.body.subs.length cs] 50)).alloc (.cells #[.int .i64 f.id, .int .i64 f.kind, .bool f.pub, .slice bn f.names.length cm, .bool f.doubt, .int .i64 f.body.kind, .string f.body.name, .string f.body.more, .int .i64 f.body.num, .int .i64 f.body.den, .slice sb f.body.subs.length ct] 50)) w.heap.size 50 #[.int .i64 d.id, .int .i64 d.kind, .bool d.pub, .slice an d.names.length cn, .bool d.doubt, .int .i64 d.body.kind, .string d.body.name, .string d.body.more, .int .i64 d.body.num, .int .i64 d.body.den, .slice sa d.body.subs.length cs]) := (CBox.new w 50 #[.int .i64 d.id, .int .i64 d.kind, .bool d.pub, .slice an d.names.length cn, .bool d.doubt, .int .i64 d.body.kind, .string d.body.name, .string d.body.more, .int .i64 d.body.num, .int .i64 d.body.den, .slice sa d.body.subs.length cs]).alloc _
  have HB2 : Hid (CBox ((w.alloc (.cells #[.int .i64 d.id, .int .i64 d.kind, .bool d.pub, .slice an d.names.length cn, .bool d.doubt, .int .i64 d.body.kind, .string d.body.name, .string d.body.more, .int .i64 d.body.num, .int .i64 d.body.den, .slice sa d.body.subs.length cs] 50)).alloc (.cells #[.int .i64 f.id, .int .i64 f.kind, .bool f.pub, .slice bn f.names.length cm, .bool f.doubt, .int .i64 f.body.kind, .string f.body.name, .string f.body.more, .int .i64 f.body.num, .int .i64 f.body.den, .slice sb f.body.subs.length ct] 50)) (w.heap.size + 1) 50 #[.int .i64 f.id, .int .i64 f.kind, .bool f.pub, .slice bn f.names.length cm, .bool f.doubt, .int .i64 f.body.kind, .string f.body.name, .string f.body.more, .int .i64 f.body.num, .int .i64 f.body.den, .slice sb f.body.subs.length ct]) := by
    have := CBox.new (w.alloc (.cells #[.int .i64 d.id, .int .i64 d.kind, .bool d.pub, .slice an d.names.length cn, .bool d.doubt, .int .i64 d.body.kind, .string d.body.name, .string d.body.more, .int .i64 d.body.num, .int .i64 d.body.den, .slice sa d.body.subs.length cs] 50)) 50 #[.int .i64 f.id, .int .i64 f.kind, .bool f.pub, .slice bn f.names.length cm, .bool f.doubt, .int .i64 f.body.kind, .string f.body.name, .string f.body.more, .int .i64 f.body.num, .int .i64 f.body.den, .slice sb f.body.subs.length ct]
    rwa [World.size_alloc] at this
  have hA : Below w.heap.size w ((w.alloc (.cells #[.int .i64 d.id, .int .i64 d.kind, .bool d.pub, .slice an d.names.length cn, .bool d.doubt, .int .i64 d.body.kind, .string d.body.name, .string d.body.more, .int .i64 d.body.num, .int .i64 d.body.den, .slice sa d.body.subs.length cs] 50)).alloc (.cells #[.int .i64 f.id, .int .i64 f.kind, .bool f.pub, .slice bn f.names.length cm, .bool f.doubt, .int .i64 f.body.kind, .string f.body.name, .string f.body.more, .int .i64 f.body.num, .int .i64 f.body.den, .slice sb f.body.subs.length ct] 50)) := qtrans (qalloc _ _) (qalloc _ _)
  have HT : Hid (sameD d f = (d.id == f.id && (sameHd d f && (sameSs d.names f.names && sameX d.body f.body)))) := rfl
  have HH := Lib.hid (fun w => equalHead_any d f an cn sa cs bn cm sb ct w)
  have HN := Lib.hid (fun w h1 h2 => EqualS_any d.names f.names an bn cn cm w h1 h2 hsd)
  have HX := Lib.hid (fun w h1 h2 => equalExpr_any d.body f.body sa sb cs ct w h1 h2 hN)
  have HD := Lib.hid hd
  have HF := Lib.hid hf
  obtain ⟨k1, e1⟩ : ∃ k1, (d.id == f.id) = k1 := ⟨_, rfl⟩
  rw [e1] at HT
  generalize sameD d f = T at *
  generalize sameHd d f = k2 at *
  generalize sameSs d.names f.names = k3 at *
  generalize sameX d.body f.body = k4 at *
  unfold declV exV at *
  clear hd hf
  cases k1 with
  | false =>
    go_enter Tryz.func46, Tryz.ntmps46
    go_wp2
    go_ret
    exact ⟨ret_bool HT.out.symm, hA⟩
  | true =>
    go_enter Tryz.func46, Tryz.ntmps46
    go_wp2_with (fail)
    refine (HH.out _).mono ?_
    rintro e w1 ⟨rfl, hb1⟩
    have hB1 := qtrans hA hb1
    have px := HB1.out.below hb1
    have py := HB2.out.below hb1
    have px0 := px.cell (i := 0) (v := .int .i64 d.id) rfl
    have px1 := px.cell (i := 1) (v := .int .i64 d.kind) rfl
    have px2 := px.cell (i := 2) (v := .bool d.pub) rfl
    have px3 := px.cell (i := 3) (v := .slice an d.names.length cn) rfl
    have px4 := px.cell (i := 4) (v := .bool d.doubt) rfl
    have px5 := px.cell (i := 5) (v := .int .i64 d.body.kind) rfl
    have px6 := px.cell (i := 6) (v := .string d.body.name) rfl
    have px7 := px.cell (i := 7) (v := .string d.body.more) rfl
    have px8 := px.cell (i := 8) (v := .int .i64 d.body.num) rfl
    have px9 := px.cell (i := 9) (v := .int .i64 d.body.den) rfl
    have px10 := px.cell (i := 10) (v := .slice sa d.body.subs.length cs) rfl
    have py0 := py.cell (i := 0) (v := .int .i64 f.id) rfl
    have py1 := py.cell (i := 1) (v := .int .i64 f.kind) rfl
    have py2 := py.cell (i := 2) (v := .bool f.pub) rfl
    have py3 := py.cell (i := 3) (v := .slice bn f.names.length cm) rfl
    have py4 := py.cell (i := 4) (v := .bool f.doubt) rfl
    have py5 := py.cell (i := 5) (v := .int .i64 f.body.kind) rfl
    have py6 := py.cell (i := 6) (v := .string f.body.name) rfl
    have py7 := py.cell (i := 7) (v := .string f.body.more) rfl
    have py8 := py.cell (i := 8) (v := .int .i64 f.body.num) rfl
    have py9 := py.cell (i := 9) (v := .int .i64 f.body.den) rfl
    have py10 := py.cell (i := 10) (v := .slice sb f.body.subs.length ct) rfl
    have plx := px.lt
    have ply := py.lt
    cases k2 with
    | false =>
      go_wp2
      go_ret
      exact ⟨ret_bool HT.out.symm, hB1⟩
    | true =>
      go_wp2_with (fail)
      refine (HN.out _ (reads_strs.1 (HD.out.below hB1).names).1 (reads_strs.1 (HF.out.below hB1).names).1).mono ?_
      rintro e w2 ⟨rfl, hb2⟩
      have hB2 := qtrans hB1 hb2
      have qx := px.below hb2
      have qy := py.below hb2
      have qx0 := qx.cell (i := 0) (v := .int .i64 d.id) rfl
      have qx1 := qx.cell (i := 1) (v := .int .i64 d.kind) rfl
      have qx2 := qx.cell (i := 2) (v := .bool d.pub) rfl
      have qx3 := qx.cell (i := 3) (v := .slice an d.names.length cn) rfl
      have qx4 := qx.cell (i := 4) (v := .bool d.doubt) rfl
      have qx5 := qx.cell (i := 5) (v := .int .i64 d.body.kind) rfl
      have qx6 := qx.cell (i := 6) (v := .string d.body.name) rfl
      have qx7 := qx.cell (i := 7) (v := .string d.body.more) rfl
      have qx8 := qx.cell (i := 8) (v := .int .i64 d.body.num) rfl
      have qx9 := qx.cell (i := 9) (v := .int .i64 d.body.den) rfl
      have qx10 := qx.cell (i := 10) (v := .slice sa d.body.subs.length cs) rfl
      have qy0 := qy.cell (i := 0) (v := .int .i64 f.id) rfl
      have qy1 := qy.cell (i := 1) (v := .int .i64 f.kind) rfl
      have qy2 := qy.cell (i := 2) (v := .bool f.pub) rfl
      have qy3 := qy.cell (i := 3) (v := .slice bn f.names.length cm) rfl
      have qy4 := qy.cell (i := 4) (v := .bool f.doubt) rfl
      have qy5 := qy.cell (i := 5) (v := .int .i64 f.body.kind) rfl
      have qy6 := qy.cell (i := 6) (v := .string f.body.name) rfl
      have qy7 := qy.cell (i := 7) (v := .string f.body.more) rfl
      have qy8 := qy.cell (i := 8) (v := .int .i64 f.body.num) rfl
      have qy9 := qy.cell (i := 9) (v := .int .i64 f.body.den) rfl
      have qy10 := qy.cell (i := 10) (v := .slice sb f.body.subs.length ct) rfl
      have qlx := qx.lt
      have qly := qy.lt
      cases k3 with
      | false =>
        go_wp2
        go_ret
        exact ⟨ret_bool HT.out.symm, hB2⟩
      | true =>
        go_wp2_with (fail)
        refine (HX.out _ (HD.out.below hB2).subs (HF.out.below hB2).subs).mono ?_
        rintro e w3 ⟨rfl, hb3⟩
        go_wp2
        go_ret
        exact ⟨ret_bool HT.out.symm, qtrans hB2 hb3⟩

set_option maxHeartbeats 4000000 in
theorem rSameDecl_any (d f : ODecl) (an : Option Addr) (cn : Nat) (sa : Option Addr) (cs : Nat) (bn : Option Addr) (cm : Nat) (sb : Option Addr) (ct : Nat) (w : World) (hd : DeclIn w d an cn sa cs) (hf : DeclIn w f bn cm sb ct) (hsd : d.names.length ≤ 1000000) (hN : nodesN d.body ≤ 1000000) :
    Calls Tryz.prog 42 #[declV d an cn sa cs, declV f bn cm sb ct] w fun e w' => e = .returned (.bool (sameD d f)) ∧ Below w.heap.size w w' := by
  have HB1 : Hid (CBox ((w.alloc (.cells #[.int .i64 d.id, .int .i64 d.kind, .bool d.pub, .slice an d.names.length cn, .bool d.doubt, .int .i64 d.body.kind, .string d.body.name, .string d.body.more, .int .i64 d.body.num, .int .i64 d.body.den, .slice sa d.body.subs.length cs] 50)).alloc (.cells #[.int .i64 f.id, .int .i64 f.kind, .bool f.pub, .slice bn f.names.length cm, .bool f.doubt, .int .i64 f.body.kind, .string f.body.name, .string f.body.more, .int .i64 f.body.num, .int .i64 f.body.den, .slice sb f.body.subs.length ct] 50)) w.heap.size 50 #[.int .i64 d.id, .int .i64 d.kind, .bool d.pub, .slice an d.names.length cn, .bool d.doubt, .int .i64 d.body.kind, .string d.body.name, .string d.body.more, .int .i64 d.body.num, .int .i64 d.body.den, .slice sa d.body.subs.length cs]) := (CBox.new w 50 #[.int .i64 d.id, .int .i64 d.kind, .bool d.pub, .slice an d.names.length cn, .bool d.doubt, .int .i64 d.body.kind, .string d.body.name, .string d.body.more, .int .i64 d.body.num, .int .i64 d.body.den, .slice sa d.body.subs.length cs]).alloc _
  have HB2 : Hid (CBox ((w.alloc (.cells #[.int .i64 d.id, .int .i64 d.kind, .bool d.pub, .slice an d.names.length cn, .bool d.doubt, .int .i64 d.body.kind, .string d.body.name, .string d.body.more, .int .i64 d.body.num, .int .i64 d.body.den, .slice sa d.body.subs.length cs] 50)).alloc (.cells #[.int .i64 f.id, .int .i64 f.kind, .bool f.pub, .slice bn f.names.length cm, .bool f.doubt, .int .i64 f.body.kind, .string f.body.name, .string f.body.more, .int .i64 f.body.num, .int .i64 f.body.den, .slice sb f.body.subs.length ct] 50)) (w.heap.size + 1) 50 #[.int .i64 f.id, .int .i64 f.kind, .bool f.pub, .slice bn f.names.length cm, .bool f.doubt, .int .i64 f.body.kind, .string f.body.name, .string f.body.more, .int .i64 f.body.num, .int .i64 f.body.den, .slice sb f.body.subs.length ct]) := by
    have := CBox.new (w.alloc (.cells #[.int .i64 d.id, .int .i64 d.kind, .bool d.pub, .slice an d.names.length cn, .bool d.doubt, .int .i64 d.body.kind, .string d.body.name, .string d.body.more, .int .i64 d.body.num, .int .i64 d.body.den, .slice sa d.body.subs.length cs] 50)) 50 #[.int .i64 f.id, .int .i64 f.kind, .bool f.pub, .slice bn f.names.length cm, .bool f.doubt, .int .i64 f.body.kind, .string f.body.name, .string f.body.more, .int .i64 f.body.num, .int .i64 f.body.den, .slice sb f.body.subs.length ct]
    rwa [World.size_alloc] at this
  have hA : Below w.heap.size w ((w.alloc (.cells #[.int .i64 d.id, .int .i64 d.kind, .bool d.pub, .slice an d.names.length cn, .bool d.doubt, .int .i64 d.body.kind, .string d.body.name, .string d.body.more, .int .i64 d.body.num, .int .i64 d.body.den, .slice sa d.body.subs.length cs] 50)).alloc (.cells #[.int .i64 f.id, .int .i64 f.kind, .bool f.pub, .slice bn f.names.length cm, .bool f.doubt, .int .i64 f.body.kind, .string f.body.name, .string f.body.more, .int .i64 f.body.num, .int .i64 f.body.den, .slice sb f.body.subs.length ct] 50)) := qtrans (qalloc _ _) (qalloc _ _)
  have HT : Hid (sameD d f = (d.id == f.id && ((d.kind == f.kind && (d.pub == f.pub && d.doubt == f.doubt)) && (sameSs d.names f.names && sameX d.body f.body)))) := rfl
  have HN := Lib.hid (fun w h1 h2 => rSameStrings_any d.names f.names an bn cn cm w h1 h2 hsd)
  have HX := Lib.hid (fun w h1 h2 => rSameX_any d.body f.body sa sb cs ct w h1 h2 (by omega))
  have HD := Lib.hid hd
  have HF := Lib.hid hf
  obtain ⟨k1, k2, k5, k6, e1, e2, e3, e4⟩ : ∃ k1 k2 k3 k4, (d.id == f.id) = k1 ∧ (d.kind == f.kind) = k2 ∧ (d.pub == f.pub) = k3 ∧ (d.doubt == f.doubt) = k4 := ⟨_, _, _, _, rfl, rfl, rfl, rfl⟩
  rw [e1, e2, e3, e4] at HT
  generalize sameD d f = T at *
  generalize sameSs d.names f.names = k3 at *
  generalize sameX d.body f.body = k4 at *
  unfold declV exV at *
  clear hd hf
  cases k1 with
  | false =>
    go_enter Tryz.func42, Tryz.ntmps42
    go_wp2
    go_ret
    exact ⟨ret_bool (by rw [HT.out]; rfl), hA⟩
  | true =>
    cases k2 with
    | false =>
      go_enter Tryz.func42, Tryz.ntmps42
      go_wp2
      go_ret
      exact ⟨ret_bool (by rw [HT.out]; simp), hA⟩
    | true =>
      cases k5 with
      | false =>
        go_enter Tryz.func42, Tryz.ntmps42
        go_wp2
        go_ret
        exact ⟨ret_bool (by rw [HT.out]; simp), hA⟩
      | true =>
        cases k6 with
        | false =>
          go_enter Tryz.func42, Tryz.ntmps42
          go_wp2
          go_ret
          exact ⟨ret_bool (by rw [HT.out]; simp), hA⟩
        | true =>
          go_enter Tryz.func42, Tryz.ntmps42
          go_wp2_with (fail)
          refine (HN.out _ (reads_strs.1 (HD.out.below hA).names).1 (reads_strs.1 (HF.out.below hA).names).1).mono ?_
          rintro e w2 ⟨rfl, hb2⟩
          have hB2 := qtrans hA hb2
          have qx := HB1.out.below hb2
          have qy := HB2.out.below hb2
          have qx0 := qx.cell (i := 0) (v := .int .i64 d.id) rfl
          have qx1 := qx.cell (i := 1) (v := .int .i64 d.kind) rfl
          have qx2 := qx.cell (i := 2) (v := .bool d.pub) rfl
          have qx3 := qx.cell (i := 3) (v := .slice an d.names.length cn) rfl
          have qx4 := qx.cell (i := 4) (v := .bool d.doubt) rfl
          have qx5 := qx.cell (i := 5) (v := .int .i64 d.body.kind) rfl
          have qx6 := qx.cell (i := 6) (v := .string d.body.name) rfl
          have qx7 := qx.cell (i := 7) (v := .string d.body.more) rfl
          have qx8 := qx.cell (i := 8) (v := .int .i64 d.body.num) rfl
          have qx9 := qx.cell (i := 9) (v := .int .i64 d.body.den) rfl
          have qx10 := qx.cell (i := 10) (v := .slice sa d.body.subs.length cs) rfl
          have qy0 := qy.cell (i := 0) (v := .int .i64 f.id) rfl
          have qy1 := qy.cell (i := 1) (v := .int .i64 f.kind) rfl
          have qy2 := qy.cell (i := 2) (v := .bool f.pub) rfl
          have qy3 := qy.cell (i := 3) (v := .slice bn f.names.length cm) rfl
          have qy4 := qy.cell (i := 4) (v := .bool f.doubt) rfl
          have qy5 := qy.cell (i := 5) (v := .int .i64 f.body.kind) rfl
          have qy6 := qy.cell (i := 6) (v := .string f.body.name) rfl
          have qy7 := qy.cell (i := 7) (v := .string f.body.more) rfl
          have qy8 := qy.cell (i := 8) (v := .int .i64 f.body.num) rfl
          have qy9 := qy.cell (i := 9) (v := .int .i64 f.body.den) rfl
          have qy10 := qy.cell (i := 10) (v := .slice sb f.body.subs.length ct) rfl
          have qlx := qx.lt
          have qly := qy.lt
          cases k3 with
          | false =>
            go_wp2
            go_ret
            exact ⟨ret_bool (by rw [HT.out]; rfl), hB2⟩
          | true =>
            go_wp2_with (fail)
            refine (HX.out _ (HD.out.below hB2).subs (HF.out.below hB2).subs).mono ?_
            rintro e w3 ⟨rfl, hb3⟩
            go_wp2
            go_ret
            exact ⟨ret_bool (by rw [HT.out]; rfl), qtrans hB2 hb3⟩
end Go.Proofs.YtlcpdhionefmbaaGreatDoor
