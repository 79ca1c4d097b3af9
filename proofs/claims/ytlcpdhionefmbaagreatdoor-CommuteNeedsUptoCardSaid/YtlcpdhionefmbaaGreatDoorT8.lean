/- commute.check. commute.needed's closure. commute.needed, commute.Needs. -/
import Derived.Test.YtlcpdhionefmbaaGreatDoorSEq
import Derived.Laws.EntriesVeiled
namespace Go.Proofs.YtlcpdhionefmbaaGreatDoor
open Go.RowKit Go.Shelf
attribute [local go_sem] Oper.semAt_some

def eAt (l : List OEdit) (i : Nat) : OEdit := (l[i]?).getD noEdit
theorem eAt_of {l : List OEdit} {k : Nat} {d : OEdit} (h : l[k]? = some d) : eAt l k = d := by rw [eAt, h]; rfl
def listErr (l : List OEdit) : Int := nzFrom (fun k => editErr (eAt l k)) l.length 0
def checkErr (l : List OEdit) (i : Int) : Int := if listErr l = 0 then (if i < 0 ∨ (l.length : Int) ≤ i then 2 else 0) else listErr l
theorem cells_edit {w : World} {l : List OEdit} {a : Option Addr} {c : Nat} (hl : Reads w [] (editsT l) (.slice a l.length c)) {i : Nat} {e : OEdit} (hi : l[i]? = some e) :
    ∃ (b o : Nat) (ao : Option Addr) (co : Nat) (af : Option Addr) (cf : Nat), a = some ⟨b, o, none⟩ ∧ b < w.heap.size ∧ w.cell? ⟨b, o + i * 5, none⟩ = some (.int .i64 e.kind) ∧ w.cell? ⟨b, o + i * 5 + 1, none⟩ = some (.string e.pack) ∧ w.cell? ⟨b, o + i * 5 + 2, none⟩ = some (.string e.text) ∧
      w.cell? ⟨b, o + i * 5 + 3, none⟩ = some (.slice ao e.old.length co) ∧ w.cell? ⟨b, o + i * 5 + 4, none⟩ = some (.slice af e.fresh.length cf) ∧ Hid (EditIn w e ao co af cf) := by
  obtain ⟨b, o, ao, co, af, cf, h1, h2, h3, h4, h5, h6, h7, h8, h9, h10, h11, h12, h13⟩ := edits_elem hl hi
  exact ⟨b, o, ao, co, af, cf, h1, h2, h3, h4, h5, h6, h7, ⟨h10.out, h13.out, h8, h9, h11, h12⟩⟩
set_option maxRecDepth 100000 in
set_option maxHeartbeats 4000000 in
theorem cCheck_any (l : List OEdit) (a : Option Addr) (c : Nat) (i : Int) (w : World) (hl : Reads w [] (editsT l) (.slice a l.length c)) (hs : ∀ e ∈ l, SmE e) (hn : l.length ≤ 1000000) :
    Calls Tryz.prog 31 #[.slice a l.length c, .int .i64 i] w fun r w' => r = .returned (.int .i64 (checkErr l i)) ∧ Below w.heap.size w w' := by
  have HL := Lib.hid hl
  have HS := Lib.hid hs
  have hp : checkErr l i = if listErr l = 0 then (if i < 0 ∨ (l.length : Int) ≤ i then 2 else 0) else listErr l := rfl
  have HP := Lib.hid hp
  have HE : Hid (listErr l = nzFrom (fun k => editErr (eAt l k)) l.length 0) := rfl
  clear hl hs hp
  generalize hf : (fun k => editErr (eAt l k)) = f at *
  have HFF : Hid (∀ k, f k = editErr (eAt l k)) := fun k => by rw [← hf]
  clear hf
  generalize checkErr l i = T at *
  generalize listErr l = q0 at *
  go_enter Tryz.func31, Tryz.ntmps31
  go_wp2
  go_loopw [10] (fun iv wr => ∃ k : Nat, k ≤ l.length ∧ iv = .int .i64 k ∧ Hid (q0 = nzFrom f l.length k) ∧ Below w.heap.size w wr) (fun iv _ => l.length - (intOf iv).toNat)
  case atStart => exact ⟨0, Nat.zero_le _, rfl, HE, qrefl _⟩
  case round =>
    obtain ⟨k, hkl, rfl, HI, hb⟩ := hrel
    by_cases hi : k < l.length
    · have hd : decide ((k : Int) < (l.length : Int)) = true := decide_eq_true (by omega)
      have hir : (k : Int) < (l.length : Int) := by omega
      obtain ⟨e, he⟩ : ∃ e, l[k]? = some e := ⟨_, List.getElem?_eq_getElem hi⟩
      obtain ⟨b, o, ao, co, af, cf, rfl, hbl, x0, x1, x2, x3, x4, hin⟩ := cells_edit (HL.out.below hb) he
      have HN := Lib.hid (HI.out.trans (nzFrom_at f hi))
      have hfk : f k = editErr e := by rw [HFF.out, eAt_of he]
      rw [hfk] at HN
      have hC0 := qalloc wr (.cells #[.int .i64 e.kind, .string e.pack, .string e.text, .slice ao e.old.length co, .slice af e.fresh.length cf] 24)
      have HC := Lib.hid (eCheck_any e ao co af cf _ (hin.out.below hC0) (HS.out e (List.mem_of_getElem? he)))
      clear HI hfk hin he
      unfold editV at HC
      generalize editErr e = q at *
      go_wp2_with (fail)
      refine HC.out.mono ?_
      rintro r w4 ⟨rfl, hb4⟩
      have hB4 := hb.trans ((qtrans hC0 hb4).mono hb.size)
      clear HC
      by_cases hq : q = 0
      · rw [if_pos hq] at HN
        have q3 : (q != 0) = false := by rw [hq]; rfl
        clear hq
        go_wp2
        go_roundw
        case rel => exact ⟨k + 1, by omega, by go_num, HN, hB4⟩
        case measure => simp [intOf]; omega
      · rw [if_neg hq] at HN
        have q3 : (q != 0) = true := by simp [hq]
        have HQ : Hid (q = T) := by show _ = _; rw [HP.out, HN.out, if_neg hq]
        clear hq
        go_wp2
        go_ret
        exact ⟨ret_int HQ.out, hB4⟩
    · have hd : decide ((k : Int) < (l.length : Int)) = false := decide_eq_false (by omega)
      have HN := Lib.hid (HI.out.trans (nzFrom_end f (by omega)))
      by_cases h0 : i < 0
      · have q1 : decide (i < 0) = true := decide_eq_true h0
        have HQ : Hid (2 = T) := by show _ = _; rw [HP.out, if_pos HN.out, if_pos (.inl h0)]
        clear h0
        go_wp2
        go_ret
        exact ⟨ret_int HQ.out, hb⟩
      have q1 : decide (i < 0) = false := decide_eq_false h0
      by_cases h1 : (l.length : Int) ≤ i
      · have q2 : decide ((l.length : Int) ≤ i) = true := decide_eq_true h1
        have HQ : Hid (2 = T) := by show _ = _; rw [HP.out, if_pos HN.out, if_pos (.inr h1)]
        clear h0 h1
        go_wp2
        go_ret
        exact ⟨ret_int HQ.out, hb⟩
      · have q2 : decide ((l.length : Int) ≤ i) = false := decide_eq_false h1
        have HQ : Hid (0 = T) := by show _ = _; rw [HP.out, if_pos HN.out, if_neg (fun h => h.elim h0 h1)]
        clear h0 h1
        go_wp2
        go_ret
        exact ⟨ret_int HQ.out, hb⟩
end Go.Proofs.YtlcpdhionefmbaaGreatDoor

namespace Go.Proofs.YtlcpdhionefmbaaGreatDoor
open Go.RowKit Go.Shelf
attribute [local go_sem] Oper.semAt_some

def dep (l : List OEdit) (k i : Nat) : Bool := !indepB (eAt l k) (eAt l i)
def scanV (l : List OEdit) (vis : Nat → List Bool → List Bool) (i : Nat) : Nat → List Bool → List Bool
  | 0, m => m
  | k + 1, m => scanV l vis i k (if !(m.getD k false) && dep l k i then vis k m else m)
def visitG (l : List OEdit) : Nat → Nat → List Bool → List Bool
  | 0, _, m => m
  | f + 1, i, m => scanV l (visitG l f) i i (m.set i true)
structure NeedW (w : World) (l : List OEdit) (Pm Pl Pv M : Nat) (a : Option Addr) (c : Nat) : Prop where
  pm : CBox w Pm 57 #[.slice (some ⟨M, 0, none⟩) l.length l.length]
  pl : CBox w Pl 26 #[.slice a l.length c]
  pv : CBox w Pv 71 #[.func (.func 43) #[] #[.pointer (some ⟨Pm, 0, none⟩), .pointer (some ⟨Pl, 0, none⟩), .pointer (some ⟨Pv, 0, none⟩)]]
  rd : Reads w [M] (editsT l) (.slice a l.length c)
  nm : Pm ≠ M
  nl : Pl ≠ M
  nv : Pv ≠ M
theorem NeedW.mod {w w' : World} {l : List OEdit} {Pm Pl Pv M : Nat} {a : Option Addr} {c : Nat} (h : NeedW w l Pm Pl Pv M a c) (m : Mod [M] w w') : NeedW w' l Pm Pl Pv M a c :=
  ⟨h.pm.mod m (by simpa using h.nm), h.pl.mod m (by simpa using h.nl), h.pv.mod m (by simpa using h.nv), h.rd.mod m, h.nm, h.nl, h.nv⟩
def metC (m : List Bool) : Array Value := (m.map Value.bool).toArray
theorem metC_at {m : List Bool} {k : Nat} (h : k < m.length) : (metC m)[k]? = some (.bool (m.getD k false)) := by
  unfold metC
  rw [List.getElem?_toArray, List.getElem?_map, List.getElem?_eq_getElem h, List.getD_eq_getElem?_getD, List.getElem?_eq_getElem h]
  rfl
theorem metC_set (m : List Bool) (i : Nat) : (metC m).setIfInBounds i (.bool true) = metC (m.set i true) := by
  unfold metC
  rw [List.setIfInBounds_toArray, List.map_set]
set_option maxRecDepth 100000 in
set_option maxHeartbeats 8000000 in
theorem need_visit (l : List OEdit) (Pm Pl Pv M : Nat) (a : Option Addr) (c : Nat) (hF : ∀ e ∈ l, FitE e) (hn : l.length ≤ 1000000) : ∀ (f i : Nat) (m : List Bool) (w : World), i < f → i < l.length → m.length = l.length → NeedW w l Pm Pl Pv M a c → CBox w M 4 (metC m) →
    Calls Tryz.prog 43 #[.int .i64 i, .pointer (some ⟨Pm, 0, none⟩), .pointer (some ⟨Pl, 0, none⟩), .pointer (some ⟨Pv, 0, none⟩)] w fun r w' => r = .returned (.tuple #[]) ∧ (visitG l f i m).length = l.length ∧ CBox w' M 4 (metC (visitG l f i m)) ∧ Mod [M] w w' := by
  intro f
  induction f with
  | zero => intro i m w h; omega
  | succ f ih =>
    intro i m w hif hil hml hN hM
    have IH := Lib.hid ih
    have HF := Lib.hid hF
    have HN := Lib.hid hN
    have HT : Hid (visitG l (f + 1) i m = scanV l (visitG l f) i i (m.set i true)) := rfl
    have HML := Lib.hid hml
    have c0 := hM.cell (metC_at (k := i) (by omega))
    have fz := hM.frozen i
    have ml := hM.lt
    have pm0 := hN.pm.cell (i := 0) (v := .slice (some ⟨M, 0, none⟩) l.length l.length) rfl
    have pml := hN.pm.lt
    have hii : (i : Int) < (l.length : Int) := by omega
    have HM1 : Hid (CBox (w.setCell ⟨M, i, none⟩ (.bool true)) M 4 (metC (m.set i true))) := by
      show CBox _ _ _ _
      rw [← metC_set]
      exact hM.set i _
    have HMD : Hid (Mod [M] w (w.setCell ⟨M, i, none⟩ (.bool true))) := (Mod.refl [M] w).setCell (p := ⟨M, i, none⟩) (by simp) _
    clear ih hF hN hM hml
    generalize visitG l (f + 1) i m = T at *
    generalize hv : visitG l f = vis at *
    have HV := Lib.hid hv
    clear hv
    generalize m.getD i false = mi at *
    have hL0 : (m.set i true).length = l.length := by rw [List.length_set]; exact HML.out
    have HL0 := Lib.hid hL0
    clear hL0
    generalize m.set i true = m0 at *
    go_enter Tryz.func43, Tryz.ntmps43
    go_upto_region 1 with (fail)
    generalize w.setCell ⟨M, i, none⟩ (.bool true) = w1 at *
    clear c0 fz ml pm0 pml
    have hw : wrap64 ((i : Int) - 1) = (i : Int) - 1 := by unfold wrap64; omega
    go_wp2
    go_loopw [5] (fun iv wr => ∃ (k : Nat) (mk : List Bool), k ≤ i ∧ iv = .int .i64 ((k : Int) - 1) ∧ Hid (mk.length = l.length) ∧ Hid (T = scanV l vis i k mk) ∧ Hid (CBox wr M 4 (metC mk)) ∧ Hid (Mod [M] w wr)) (fun iv _ => (intOf iv + 1).toNat)
    case atStart => exact ⟨i, m0, Nat.le_refl _, rfl, HL0, HT, HM1, HMD⟩
    case round =>
      obtain ⟨k, mk, hki, rfl, HLK, HI, HMK, HMO⟩ := hrel
      cases k with
      | zero =>
        have hd : decide ((0 : Int) ≤ ((0 : Nat) : Int) - 1) = false := decide_eq_false (by omega)
        have HF : Hid (T = mk) := by show _ = _; rw [HI.out]; rfl
        go_wp2
        go_returns
        exact ⟨rfl, by rw [HF.out]; exact HLK.out, by rw [HF.out]; exact HMK.out, HMO.out⟩
      | succ k =>
        have hk1 : (((k + 1 : Nat) : Int) - 1) = (k : Int) := by omega
        rw [hk1]
        have hd : decide ((0 : Int) ≤ (k : Int)) = true := decide_eq_true (by omega)
        have hkl : (k : Int) < (l.length : Int) := by omega
        have HNK := Lib.hid (HN.out.mod HMO.out)
        obtain ⟨e, he⟩ : ∃ e, l[k]? = some e := ⟨_, List.getElem?_eq_getElem (by omega)⟩
        obtain ⟨g, hg⟩ : ∃ g, l[i]? = some g := ⟨_, List.getElem?_eq_getElem hil⟩
        obtain ⟨b, o, ao, ac, af, ad, ha, hbl, x0, x1, x2, x3, x4, hin⟩ := cells_edit HNK.out.rd.free he
        subst ha
        obtain ⟨b', o', bo, bc, bf, bd, ha, hbl', y0, y1, y2, y3, y4, hig⟩ := cells_edit HNK.out.rd.free hg
        injection ha with ha
        injection ha with ha1 ha2
        subst ha1 ha2
        have HC := Lib.hid (fun w' (h' : Below wr.heap.size wr w') => cIndep_any e g ao ac af ad bo bc bf bd w' (hin.out.below h') (hig.out.below h') (HF.out e (List.mem_of_getElem? he)) (HF.out g (List.mem_of_getElem? hg)))
        have HD : Hid (dep l k i = !indepB e g) := by show _ = _; rw [dep, eAt_of he, eAt_of hg]
        have HS := Lib.hid (HI.out.trans (show scanV l vis i (k + 1) mk = scanV l vis i k (if !(mk.getD k false) && dep l k i then vis k mk else mk) from rfl))
        have hmk := HMK.out.cell (metC_at (k := k) (by have := HLK.out; omega))
        have hml := HMK.out.lt
        have p1 := HNK.out.pm.cell (i := 0) (v := .slice (some ⟨M, 0, none⟩) l.length l.length) rfl
        have p2 := HNK.out.pl.cell (i := 0) (v := .slice (some ⟨b, o, none⟩) l.length c) rfl
        have q1 := HNK.out.pm.lt
        have q2 := HNK.out.pl.lt
        clear hin hig he hg HI hbl'
        generalize mk.getD k false = mb at *
        generalize dep l k i = dp at *
        generalize indepB e g = ib at *
        unfold editV at HC
        have SW : Hid (∀ W : World, Below wr.heap.size wr W → (W.cell? ⟨Pm, 0, none⟩ = some (.slice (some ⟨M, 0, none⟩) l.length l.length) ∧ W.cell? ⟨Pl, 0, none⟩ = some (.slice (some ⟨b, o, none⟩) l.length c) ∧ Pm < W.heap.size ∧ Pl < W.heap.size ∧ M < W.heap.size ∧ b < W.heap.size ∧ W.cell? ⟨M, k, none⟩ = some (.bool mb) ∧ W.cell? ⟨b, o + k * 5, none⟩ = some (.int .i64 e.kind) ∧ W.cell? ⟨b, o + k * 5 + 1, none⟩ = some (.string e.pack) ∧ W.cell? ⟨b, o + k * 5 + 2, none⟩ = some (.string e.text) ∧ W.cell? ⟨b, o + k * 5 + 3, none⟩ = some (.slice ao e.old.length ac) ∧ W.cell? ⟨b, o + k * 5 + 4, none⟩ = some (.slice af e.fresh.length ad) ∧ W.cell? ⟨b, o + i * 5, none⟩ = some (.int .i64 g.kind) ∧ W.cell? ⟨b, o + i * 5 + 1, none⟩ = some (.string g.pack) ∧ W.cell? ⟨b, o + i * 5 + 2, none⟩ = some (.string g.text) ∧ W.cell? ⟨b, o + i * 5 + 3, none⟩ = some (.slice bo g.old.length bc) ∧ W.cell? ⟨b, o + i * 5 + 4, none⟩ = some (.slice bf g.fresh.length bd))) := Lib.hid (fun W hW => ⟨(hW.cell (p := ⟨Pm, _, none⟩) q1).trans p1, (hW.cell (p := ⟨Pl, _, none⟩) q2).trans p2, Nat.lt_of_lt_of_le q1 hW.size, Nat.lt_of_lt_of_le q2 hW.size, Nat.lt_of_lt_of_le hml hW.size, Nat.lt_of_lt_of_le hbl hW.size, (hW.cell (p := ⟨M, _, none⟩) hml).trans hmk, (hW.cell (p := ⟨b, _, none⟩) hbl).trans x0, (hW.cell (p := ⟨b, _, none⟩) hbl).trans x1, (hW.cell (p := ⟨b, _, none⟩) hbl).trans x2, (hW.cell (p := ⟨b, _, none⟩) hbl).trans x3, (hW.cell (p := ⟨b, _, none⟩) hbl).trans x4, (hW.cell (p := ⟨b, _, none⟩) hbl).trans y0, (hW.cell (p := ⟨b, _, none⟩) hbl).trans y1, (hW.cell (p := ⟨b, _, none⟩) hbl).trans y2, (hW.cell (p := ⟨b, _, none⟩) hbl).trans y3, (hW.cell (p := ⟨b, _, none⟩) hbl).trans y4⟩)
        have hdr : Below wr.heap.size wr wr.drew := (Mod.refl [] wr).drew.below
        clear hmk p1 p2 x0 x1 x2 x3 x4 y0 y1 y2 y3 y4
        go_upto_region 4 with (fail)
        go_cut [31] from 11 to 34 (fun v wx => v = .bool (!mb && dp) ∧ Below wr.heap.size wr wx)
        case first =>
          refine wp_region_noPanic (region_lex (fun W : World => W.cell? ⟨Pm, 0, none⟩ = some (.slice (some ⟨M, 0, none⟩) l.length l.length) ∧ W.cell? ⟨Pl, 0, none⟩ = some (.slice (some ⟨b, o, none⟩) l.length c) ∧ Pm < W.heap.size ∧ Pl < W.heap.size ∧ M < W.heap.size ∧ b < W.heap.size ∧ W.cell? ⟨M, k, none⟩ = some (.bool mb) ∧ W.cell? ⟨b, o + k * 5, none⟩ = some (.int .i64 e.kind) ∧ W.cell? ⟨b, o + k * 5 + 1, none⟩ = some (.string e.pack) ∧ W.cell? ⟨b, o + k * 5 + 2, none⟩ = some (.string e.text) ∧ W.cell? ⟨b, o + k * 5 + 3, none⟩ = some (.slice ao e.old.length ac) ∧ W.cell? ⟨b, o + k * 5 + 4, none⟩ = some (.slice af e.fresh.length ad) ∧ W.cell? ⟨b, o + i * 5, none⟩ = some (.int .i64 g.kind) ∧ W.cell? ⟨b, o + i * 5 + 1, none⟩ = some (.string g.pack) ∧ W.cell? ⟨b, o + i * 5 + 2, none⟩ = some (.string g.text) ∧ W.cell? ⟨b, o + i * 5 + 3, none⟩ = some (.slice bo g.old.length bc) ∧ W.cell? ⟨b, o + i * 5 + 4, none⟩ = some (.slice bf g.fresh.length bd)) [true, true, true, true, true, true, true, true, true, true, true, true, true, true, false, true, true] mixedK (by kernel_rfl) (fun _ _ _ _ _ h => h) (SW.out _ hdr) (fun hHeld => ?_))
          cases mb with
          | true =>
            iterate 17 (first | (refine lex_skip (by rfl) ?_; (try simp only [Act.put, List.setIfInBounds_toArray, List.set_cons_zero, List.set_cons_succ])) | (refine lex_take (v := ?_) (by rfl) ?_ ?_; rotate_left; (focus (intro wq hSw; (try dsimp only at hSw); go_simp; (try with_reducible rfl))); (try simp only [Act.put, List.setIfInBounds_toArray, List.set_cons_zero, List.set_cons_succ])))
            refine lex_end ?_
            refine NoPanic.normal ?_
            (try go_wp2)
            go_meet
            case rel => exact ⟨rfl, hdr⟩
          | false =>
            iterate 14 (first | (refine lex_skip (by rfl) ?_; (try simp only [Act.put, List.setIfInBounds_toArray, List.set_cons_zero, List.set_cons_succ])) | (refine lex_take (v := ?_) (by rfl) ?_ ?_; rotate_left; (focus (intro wq hSw; (try dsimp only at hSw); go_simp; (try with_reducible rfl))); (try simp only [Act.put, List.setIfInBounds_toArray, List.set_cons_zero, List.set_cons_succ])))
            clear hHeld
            generalize wr.drew = wd at *
            (refine lex_do (by rfl) (fun K hK => ?_); go_simp)
            refine (HC.out _ hdr).mono ?_
            rintro r w3 ⟨rfl, hb3⟩
            (try go_simp)
            have hb4 := qtrans hdr hb3
            refine hK.out _ _ (SW.out _ hb4) (fun _ => ?_); clear hK K; (try simp only [Act.put, List.setIfInBounds_toArray, List.set_cons_zero, List.set_cons_succ])
            iterate 2 (first | (refine lex_skip (by rfl) ?_; (try simp only [Act.put, List.setIfInBounds_toArray, List.set_cons_zero, List.set_cons_succ])) | (refine lex_take (v := ?_) (by rfl) ?_ ?_; rotate_left; (focus (intro wq hSw; (try dsimp only at hSw); go_simp; (try with_reducible rfl))); (try simp only [Act.put, List.setIfInBounds_toArray, List.set_cons_zero, List.set_cons_succ])))
            refine lex_end ?_
            refine NoPanic.normal ?_
            (try go_wp2)
            go_meet
            case rel => exact ⟨by rw [HD.out]; rfl, hb4⟩
        case rest =>
        obtain ⟨rfl, hb4⟩ := hcut
        generalize wc = w4 at *
        have HM4 := Lib.hid (HMK.out.below hb4)
        have HO4 := Lib.hid (HMO.out.trans (Mod.of hb4))
        have HN4 := Lib.hid (HN.out.mod HO4.out)
        clear SW HC hdr HMK HMO HNK
        have hw2 : wrap64 ((k : Int) - 1) = (k : Int) - 1 := by unfold wrap64; omega
        cases hz : (!mb && dp) with
        | false =>
          rw [hz, if_neg (by simp)] at HS
          go_wp2
          go_roundw
          case rel => exact ⟨k, mk, by omega, rfl, HLK, HS, HM4, HO4⟩
          case measure => first | (simp [intOf]; done) | (simp [intOf]; omega)
        | true =>
          rw [hz, if_pos rfl] at HS
          have HCV := Lib.hid (IH.out k mk w4 (by omega) (by omega) HLK.out HN4.out HM4.out)
          have z0 := HN4.out.pv.cell (i := 0) rfl
          have zl := HN4.out.pv.lt
          clear hz
          go_wp2_with (fail)
          refine HCV.out.mono ?_
          rintro r w5 ⟨rfl, hlen, hm5, ho5⟩
          have HL5 := Lib.hid hlen
          have HM5 := Lib.hid hm5
          have HO5 := Lib.hid (HO4.out.trans ho5)
          clear hlen hm5 ho5 z0 zl
          go_wp2
          go_roundw
          case rel => exact ⟨k, vis k mk, by omega, rfl, HL5, HS, HM5, HO5⟩
          case measure => first | (simp [intOf]; done) | (simp [intOf]; omega)
end Go.Proofs.YtlcpdhionefmbaaGreatDoor

namespace Go.Proofs.YtlcpdhionefmbaaGreatDoor
open Go.RowKit Go.Shelf
attribute [local go_sem] Oper.semAt_some

theorem infoBool : (Tryz.prog.info? 4).map (fun i => (i.zero.map (fun z => z.cells), i.size, i.bytes)) = some (some #[.bool false], 1, 1) := by kernel_rfl
theorem infoInt' : (Tryz.prog.info? 3).map (fun i => (i.zero.map (fun z => z.cells.size), i.size, i.bytes)) = some (some 1, 1, 8) := by kernel_rfl
theorem made_bools (n : Nat) : madeCells #[.bool false] (n * 1) = metC (List.replicate n false) := by
  unfold madeCells metC
  rw [Nat.mul_one, List.map_replicate]
  apply Array.ext
  · simp
  · intro i h1 h2
    simp
    rw [Nat.mod_one]
    rfl
def needB (l : List OEdit) (i : Nat) : List Bool := visitG l l.length i (List.replicate l.length false)
set_option maxRecDepth 100000 in
set_option maxHeartbeats 8000000 in
theorem cNeeded_any (l : List OEdit) (i : Nat) (a : Option Addr) (c : Nat) (w : World) (hl : Reads w [] (editsT l) (.slice a l.length c)) (hF : ∀ e ∈ l, FitE e) (hn : l.length ≤ 1000000) (hi : i < l.length) :
    Calls Tryz.prog 32 #[.slice a l.length c, .int .i64 i] w fun r w' => r = .returned (.slice (some ⟨w.heap.size + 1, 0, none⟩) l.length l.length) ∧ (needB l i).length = l.length ∧ CBox w' (w.heap.size + 1) 4 (metC (needB l i)) ∧ Below w.heap.size w w' := by
  obtain ⟨i0, hi0, hb0⟩ := Option.map_eq_some_iff.1 infoBool
  injection hb0 with hz hb0
  injection hb0 with hz1 hz2
  obtain ⟨z, hz0, hzc⟩ := Option.map_eq_some_iff.1 hz
  have hmk := run_make (P := Tryz.prog) (w.alloc (.cells #[.slice a l.length c] 26)) 57 4 i0 z Tryz.underlying57 hi0 hz0 .i64 .i64 (l.length : Int) (l.length : Int) (by omega) (Int.le_refl _) (by rw [hz2]; omega) (by omega)
  simp only [Int.toNat_natCast, hz1, hzc, made_bools, World.size_alloc] at hmk
  clear hz hz1 hz2 hz0 hzc hi0
  have hcm : CBox ((((w.alloc (.cells #[.slice a l.length c] 26)).alloc (.cells (metC (List.replicate l.length false)) 4)).alloc (.cells #[.slice (some ⟨w.heap.size + 1, 0, none⟩) l.length l.length] 57)).alloc (.cells #[.func (.func 43) #[] #[.pointer (some ⟨w.heap.size + 1 + 1, 0, none⟩), .pointer (some ⟨w.heap.size, 0, none⟩), .pointer (some ⟨w.heap.size + 1 + 1 + 1, 0, none⟩)]] 71)) (w.heap.size + 1) 4 (metC (List.replicate l.length false)) := by
    have q := CBox.new (w.alloc (.cells #[.slice a l.length c] 26)) 4 (metC (List.replicate l.length false))
    rw [World.size_alloc] at q
    exact (q.alloc _).alloc _
  have hnw : NeedW ((((w.alloc (.cells #[.slice a l.length c] 26)).alloc (.cells (metC (List.replicate l.length false)) 4)).alloc (.cells #[.slice (some ⟨w.heap.size + 1, 0, none⟩) l.length l.length] 57)).alloc (.cells #[.func (.func 43) #[] #[.pointer (some ⟨w.heap.size + 1 + 1, 0, none⟩), .pointer (some ⟨w.heap.size, 0, none⟩), .pointer (some ⟨w.heap.size + 1 + 1 + 1, 0, none⟩)]] 71)) l (w.heap.size + 1 + 1) w.heap.size (w.heap.size + 1 + 1 + 1) (w.heap.size + 1) a c := by
    have q3 := CBox.new ((w.alloc (.cells #[.slice a l.length c] 26)).alloc (.cells (metC (List.replicate l.length false)) 4)) 57 #[.slice (some ⟨w.heap.size + 1, 0, none⟩) l.length l.length]
    have q4 := CBox.new (((w.alloc (.cells #[.slice a l.length c] 26)).alloc (.cells (metC (List.replicate l.length false)) 4)).alloc (.cells #[.slice (some ⟨w.heap.size + 1, 0, none⟩) l.length l.length] 57)) 71 #[.func (.func 43) #[] #[.pointer (some ⟨w.heap.size + 1 + 1, 0, none⟩), .pointer (some ⟨w.heap.size, 0, none⟩), .pointer (some ⟨w.heap.size + 1 + 1 + 1, 0, none⟩)]]
    simp only [World.size_alloc] at q3 q4
    exact ⟨q3.alloc _, (((CBox.new w _ _).alloc _).alloc _).alloc _, q4, (hl.more (Nat.le_succ _)).below (qtrans (qtrans (qtrans (qalloc _ _) (qalloc _ _)) (qalloc _ _)) (qalloc _ _)), by omega, by omega, by omega⟩
  have hA : Below w.heap.size w ((((w.alloc (.cells #[.slice a l.length c] 26)).alloc (.cells (metC (List.replicate l.length false)) 4)).alloc (.cells #[.slice (some ⟨w.heap.size + 1, 0, none⟩) l.length l.length] 57)).alloc (.cells #[.func (.func 43) #[] #[.pointer (some ⟨w.heap.size + 1 + 1, 0, none⟩), .pointer (some ⟨w.heap.size, 0, none⟩), .pointer (some ⟨w.heap.size + 1 + 1 + 1, 0, none⟩)]] 71)) := qtrans (qtrans (qtrans (qalloc _ _) (qalloc _ _)) (qalloc _ _)) (qalloc _ _)
  have HC := Lib.hid (need_visit l (w.heap.size + 1 + 1) w.heap.size (w.heap.size + 1 + 1 + 1) (w.heap.size + 1) a c hF hn l.length i (List.replicate l.length false) _ hi hi (by simp) hnw hcm)
  have HNW := Lib.hid hnw
  have HA := Lib.hid hA
  clear hcm hnw hA hl hF
  go_enter Tryz.func32, Tryz.ntmps32
  go_wp2_with (fail)
  refine HC.out.mono ?_
  rintro r w5 ⟨rfl, hlen, hm5, ho5⟩
  have hpm := HNW.out.mod ho5
  have z0 := hpm.pm.cell (i := 0) (v := .slice (some ⟨w.heap.size + 1, 0, none⟩) l.length l.length) rfl
  have zl := hpm.pm.lt
  have HB := Lib.hid (HA.out.trans (ho5.upto HA.out.size (by intro q hq; simp at hq; omega)))
  have HL5 := Lib.hid hlen
  have HM5 := Lib.hid hm5
  clear hpm hlen hm5 ho5 HC HNW HA
  go_wp2
  go_ret
  exact ⟨rfl, HL5.out, HM5.out, HB.out⟩
/-- The indexes of the other edits that are met. -/
def needI (l : List OEdit) (i : Nat) : List Int := ((List.range l.length).filter fun k => (needB l i).getD k false && !(k == i)).map (fun k : Nat => (k : Int))
def needsOf (l : List OEdit) (i : Int) : List Int := if checkErr l i = 0 then needI l i.toNat else []
def IntsR (w : World) (v : Value) (l : List Int) : Prop := IsRow w 1 v l.length (l.map (Value.int .i64))
def partI (l : List OEdit) (i k : Nat) : List Int := ((List.range k).filter fun k => (needB l i).getD k false && !(k == i)).map (fun k : Nat => (k : Int))
theorem partI_succ (l : List OEdit) (i k : Nat) : partI l i (k + 1) = partI l i k ++ (if (needB l i).getD k false && !(k == i) then [(k : Int)] else []) := by
  unfold partI
  rw [List.range_succ, List.filter_append, List.map_append]
  congr 1
  rw [List.filter_cons]
  split <;> rfl
theorem partI_len (l : List OEdit) (i k : Nat) : (partI l i k).length ≤ k := by
  unfold partI
  rw [List.length_map]
  exact Nat.le_trans (List.length_filter_le _ _) (by simp)
set_option maxRecDepth 100000 in
set_option maxHeartbeats 8000000 in
theorem cNeeds_any (l : List OEdit) (i : Int) (a : Option Addr) (c : Nat) (w : World) (hl : Reads w [] (editsT l) (.slice a l.length c)) (hs : ∀ e ∈ l, SmE e) (hn : l.length ≤ 1000000) :
    Calls Tryz.prog 15 #[.slice a l.length c, .int .i64 i] w fun r w' => ∃ v, r = .returned (.tuple #[v, .int .i64 (checkErr l i)]) ∧ IntsR w' v (needsOf l i) ∧ Below w.heap.size w w' := by
  have HL := Lib.hid hl
  have HC := Lib.hid (cCheck_any l a c i w hl hs hn)
  have hp : needsOf l i = if checkErr l i = 0 then needI l i.toNat else [] := rfl
  obtain ⟨i0, z, hi0, hz0, hzs, hz1, hz2⟩ := info_parts' infoInt'
  by_cases h0 : checkErr l i = 0
  rotate_left
  · rw [if_neg h0] at hp
    have q1 : (checkErr l i != 0) = true := by simp [h0]
    have HP := Lib.hid hp
    clear hp h0 hl hs
    generalize needsOf l i = T at *
    generalize checkErr l i = q at *
    go_enter Tryz.func15, Tryz.ntmps15
    go_wp2_with (fail)
    refine HC.out.mono ?_
    rintro r w1 ⟨rfl, hb1⟩
    go_wp2
    go_returns
    exact ⟨_, rfl, by rw [HP.out]; exact ⟨rfl, none, 0, rfl, Nat.le_refl _, Nat.zero_le _, fun h => absurd h (by simp)⟩, hb1⟩
  rw [if_pos h0] at hp
  have q1 : (checkErr l i != 0) = false := by rw [h0]; rfl
  have hall : listErr l = 0 ∧ 0 ≤ i ∧ i < (l.length : Int) := by
    unfold checkErr at h0
    split at h0
    · rename_i h1
      split at h0
      · cases h0
      · rename_i h2
        exact ⟨h1, by omega, by omega⟩
    · rename_i h1; exact absurd h0 h1
  have hF : ∀ e ∈ l, FitE e := by
    have key : ∀ (f : Nat → Int) (n k : Nat), nzFrom f n 0 = 0 → k < n → f k = 0 := by
      intro f n k h hk
      have : ∀ j, j ≤ n → nzFrom f n 0 = 0 → (∀ q, q < j → f q = 0) ∧ nzFrom f n j = 0 := by
        intro j
        induction j with
        | zero => intro _ h; exact ⟨fun q hq => by omega, h⟩
        | succ j ih =>
          intro hj h
          obtain ⟨h1, h2⟩ := ih (by omega) h
          rw [nzFrom_at f (show j < n by omega)] at h2
          split at h2
          · rename_i h3
            refine ⟨fun q hq => ?_, h2⟩
            rcases Nat.lt_or_ge q j with h4 | h4
            · exact h1 q h4
            · obtain rfl : q = j := by omega
              exact h3
          · rename_i h3; exact absurd h2 h3
      exact (this n (Nat.le_refl _) h).1 k hk
    intro e he
    obtain ⟨k, hk, rfl⟩ := List.mem_iff_getElem.1 he
    have := key _ _ k hall.1 hk
    rw [eAt_of (List.getElem?_eq_getElem hk)] at this
    exact fit_of this
  obtain ⟨j, rfl⟩ : ∃ j : Nat, i = (j : Int) := ⟨i.toNat, by omega⟩
  rw [Int.toNat_natCast] at hp
  have hj : j < l.length := by omega
  have HN := Lib.hid (fun W (h : Below w.heap.size w W) => cNeeded_any l j a c W (hl.below h) hF hn hj)
  have HP : Hid (needsOf l j = partI l j l.length) := hp
  have HPS := Lib.hid (partI_succ l j)
  have HPL := Lib.hid (partI_len l j)
  have HP0 : Hid (partI l j 0 = []) := rfl
  have H0 := Lib.hid h0
  clear hp hl hs hF hall h0
  generalize needsOf l (j : Int) = T at *
  generalize needB l j = mm at *
  generalize partI l j = pf at *
  generalize checkErr l (j : Int) = q at *
  go_enter Tryz.func15, Tryz.ntmps15
  go_wp2_with (fail)
  refine HC.out.mono ?_
  rintro r w1 ⟨rfl, hb1⟩
  go_wp2_with (fail)
  refine (HN.out _ hb1).mono ?_
  rintro r w2 ⟨rfl, hlen, hm2, hb2⟩
  have hB2 := qtrans hb1 hb2
  have HL2 := Lib.hid hlen
  have HM2 := Lib.hid hm2
  have hsz2 := hm2.lt
  generalize hMM : w1.heap.size + 1 = M at *
  clear hlen hm2 hMM HC HN hb1 hb2
  go_wp2
  go_loopw [7, 20] (fun sv iv wr => ∃ k : Nat, k ≤ l.length ∧ iv = .int .i64 k ∧ Hid (wr.ownsRow w2.heap.size 3 1 sv (pf k).length ((pf k).map (Value.int .i64))) ∧ Hid (Below w2.heap.size w2 wr)) (fun _ iv _ => l.length - (intOf iv).toNat)
  case atStart => exact ⟨0, Nat.zero_le _, rfl, by rw [HP0.out]; exact World.ownsRow_nil _ _ _ _, qrefl _⟩
  case round =>
    obtain ⟨k, hkl, rfl, HO, HB⟩ := hrel
    by_cases hi : k < l.length
    · have hd : decide ((k : Int) < (l.length : Int)) = true := decide_eq_true (by omega)
      have hir : (k : Int) < (l.length : Int) := by omega
      have hmk := (HM2.out.below HB.out).cell (metC_at (k := k) (by have := HL2.out; omega))
      have hml := (HM2.out.below HB.out).lt
      have HS := Lib.hid (HPS.out k)
      have hlen := HPL.out k
      have hne : ((k : Int) != (j : Int)) = !(k == j) := by
        rw [bne, Bool.eq_iff_iff]
        simp
        omega
      obtain ⟨kj, hkj⟩ : ∃ kj, (k == j) = kj := ⟨_, rfl⟩
      rw [hkj] at hne HS
      clear hkj
      generalize mm.getD k false = mb at *
      have HO2 := HO.out
      obtain ⟨sa, sc, rfl⟩ := owns_val HO2
      have hsw := HB.out.size
      cases mb with
      | false =>
        rw [Bool.false_and, if_neg (by simp), List.append_nil] at HS
        go_wp2
        go_roundw
        case rel => exact ⟨k + 1, by omega, by go_num, by rw [HS.out]; exact HO.out, HB⟩
        case measure => simp [intOf]; omega
      | true =>
        cases kj with
        | true =>
          rw [Bool.not_true, Bool.and_false, if_neg (by simp), List.append_nil] at HS
          rw [Bool.not_true] at hne
          go_wp2
          go_roundw
          case rel => exact ⟨k + 1, by omega, by go_num, by rw [HS.out]; exact HO.out, HB⟩
          case measure => simp [intOf]; omega
        | false =>
          rw [Bool.not_false, Bool.and_true, if_pos rfl] at HS
          rw [Bool.not_false] at hne
          have hA3 := qalloc wr (.cells #[.int .i64 k] 3)
          have HR3 := Lib.hid (owns_row (own_one wr wr.heap.size (Nat.le_refl _) (.int .i64 k) 3))
          have HO3 := Lib.hid (owns_below HO.out hA3)
          have HA3 := Lib.hid hA3
          have hsz3 := hA3.size
          clear hA3 HO2
          go_wp2_with (at_builtin; refine wpList_append_row rfl _ _ 36 rfl w2.heap.size 3 i0 _ 1 8 Tryz.underlying36 hi0 hz0 hz1 hz2 hzs (by decide) _ _ _ rfl HO3.out _ _ _ rfl HR3.out (by intro u hu; simp at hu; subst hu; rfl) (by unfold maxLen; omega) (by omega) (by omega) ?_)
          intro v5 w5 hown5 hg5 hbk5
          have HB5 := Lib.hid (((HB.out.trans (HA3.out.mono hsw))).grown hg5 (by omega) (fun x hx => (HO3.out.lt x hx).1))
          have HO5 : Hid (w5.ownsRow w2.heap.size 3 1 v5 (pf (k + 1)).length ((pf (k + 1)).map (Value.int .i64))) := by
            show World.ownsRow _ _ _ _ _ _ _
            rw [HS.out, List.length_append, List.map_append]
            exact hown5
          clear hown5 hg5 hbk5
          go_wp2
          go_roundw
          case rel => exact ⟨k + 1, by omega, by go_num, HO5, HB5⟩
          case measure => simp [intOf]; omega
    · have hd : decide ((k : Int) < (l.length : Int)) = false := decide_eq_false (by omega)
      obtain rfl : k = l.length := by omega
      have HO2 := HO.out
      obtain ⟨sa, sc, rfl⟩ := owns_val HO2
      have HF : Hid (IntsR wr (.slice sa (pf l.length).length sc) T) := by
        show IntsR _ _ _
        rw [HP.out]
        exact owns_row HO.out
      clear HO2
      clear HO
      go_wp2
      go_returns
      exact ⟨_, by rw [H0.out]; rfl, HF.out, hB2.trans (HB.out.mono hB2.size)⟩
end Go.Proofs.YtlcpdhionefmbaaGreatDoor
