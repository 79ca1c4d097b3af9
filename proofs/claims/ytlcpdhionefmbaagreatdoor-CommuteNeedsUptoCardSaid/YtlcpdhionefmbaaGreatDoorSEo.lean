/- commute.concerns, commute.independent. -/
import Derived.Test.YtlcpdhionefmbaaGreatDoorSEi
import Derived.Handy
import Derived.BigQuiet
namespace Go.Proofs.YtlcpdhionefmbaaGreatDoor
open Go.RowKit Go.Shelf
attribute [local go_sem] Oper.semAt_some

def concT (e : OEdit) : ByteArray := if e.kind = 3 ∨ e.kind = 4 then e.text else ⟨#[]⟩
def concI (e : OEdit) : Int := if e.kind ≤ 4 then 0 else if e.kind = 5 then (dAt e.fresh 0).id else (dAt e.old 0).id
def concP (e : OEdit) : Int := if e.kind ≤ 6 then 0 else e.kind
def concV (e : OEdit) : Value := .agg #[.string (concT e), .int .i64 (concI e), .int .i64 (concP e)]
def zeroC (e : OEdit) : Bool := eqS (concT e) ⟨#[]⟩ && (concI e == 0 && concP e == 0)
def sameC (a b : OEdit) : Bool := eqS (concT a) (concT b) && (concI a == concI b && concP a == concP b)
def indepB (a b : OEdit) : Bool :=
  if eqS a.pack b.pack then (if zeroC a || zeroC b || sameC a b then false else if concI a != concI b || !(eqS (concT a) (concT b)) then true else (concP a != 0 && concP b != 0)) else true
/-- The shape of an edit that has been checked. -/
structure FitE (e : OEdit) : Prop where
  lo : 1 ≤ e.kind
  hi : e.kind ≤ 9
  old : e.old.length = oldsN e.kind
  fresh : e.fresh.length = newsN e.kind
set_option maxRecDepth 100000 in
set_option maxHeartbeats 8000000 in
theorem concerns_any (e : OEdit) (ao : Option Addr) (co : Nat) (af : Option Addr) (cf : Nat) (w : World) (he : EditIn w e ao co af cf) (hs : FitE e) :
    Calls Tryz.prog 39 #[editV e ao co af cf] w fun r w' => r = .returned (concV e) ∧ ∃ (n : Nat) (Y : Obj), w' = ((w.alloc (.cells #[.int .i64 e.kind, .string e.pack, .string e.text, .slice ao e.old.length co, .slice af e.fresh.length cf] 24)).alloc Y).drewN n := by
  have HI := Lib.hid he
  obtain ⟨hlo, hhi, hol, hfl⟩ := hs
  have hp : concV e = .agg #[.string (concT e), .int .i64 (concI e), .int .i64 (concP e)] := rfl
  unfold editV
  clear he
  by_cases e1 : e.kind = 1
  · skip
    have k1 : (e.kind == 1) = true := by rw [e1]; rfl
    have h1 : concT e = ⟨#[]⟩ := by unfold concT; rw [if_neg (by omega)]
    have h2 : concI e = 0 := by unfold concI; rw [if_pos (by omega)]
    have h3 : concP e = 0 := by unfold concP; rw [if_pos (by omega)]
    rw [h1, h2, h3] at hp
    have HP := Lib.hid hp
    clear hp h1 h2 h3 hol hfl hlo hhi e1 HI
    generalize concV e = T at *
    go_enter Tryz.func39, Tryz.ntmps39
    go_wp2
    go_returns
    exact ⟨by rw [HP.out], 0, _, rfl⟩
  by_cases e2 : e.kind = 2
  · skip
    have k1 : (e.kind == 1) = false := beq_eq_false_iff_ne.2 e1
    have k2 : (e.kind == 2) = true := by rw [e2]; rfl
    have h1 : concT e = ⟨#[]⟩ := by unfold concT; rw [if_neg (by omega)]
    have h2 : concI e = 0 := by unfold concI; rw [if_pos (by omega)]
    have h3 : concP e = 0 := by unfold concP; rw [if_pos (by omega)]
    rw [h1, h2, h3] at hp
    have HP := Lib.hid hp
    clear hp h1 h2 h3 hol hfl hlo hhi e1 e2 HI
    generalize concV e = T at *
    go_enter Tryz.func39, Tryz.ntmps39
    go_wp2
    go_returns
    exact ⟨by rw [HP.out], 0, _, rfl⟩
  by_cases e3 : e.kind = 3
  · skip
    have k1 : (e.kind == 1) = false := beq_eq_false_iff_ne.2 e1
    have k2 : (e.kind == 2) = false := beq_eq_false_iff_ne.2 e2
    have k3 : (e.kind == 3) = true := by rw [e3]; rfl
    have h1 : concT e = e.text := by unfold concT; rw [if_pos (by omega)]
    have h2 : concI e = 0 := by unfold concI; rw [if_pos (by omega)]
    have h3 : concP e = 0 := by unfold concP; rw [if_pos (by omega)]
    rw [h1, h2, h3] at hp
    have HP := Lib.hid hp
    clear hp h1 h2 h3 hol hfl hlo hhi e1 e2 e3 HI
    generalize concV e = T at *
    go_enter Tryz.func39, Tryz.ntmps39
    go_wp2
    go_returns
    exact ⟨by rw [HP.out], 0, _, rfl⟩
  by_cases e4 : e.kind = 4
  · skip
    have k1 : (e.kind == 1) = false := beq_eq_false_iff_ne.2 e1
    have k2 : (e.kind == 2) = false := beq_eq_false_iff_ne.2 e2
    have k3 : (e.kind == 3) = false := beq_eq_false_iff_ne.2 e3
    have k4 : (e.kind == 4) = true := by rw [e4]; rfl
    have h1 : concT e = e.text := by unfold concT; rw [if_pos (by omega)]
    have h2 : concI e = 0 := by unfold concI; rw [if_pos (by omega)]
    have h3 : concP e = 0 := by unfold concP; rw [if_pos (by omega)]
    rw [h1, h2, h3] at hp
    have HP := Lib.hid hp
    clear hp h1 h2 h3 hol hfl hlo hhi e1 e2 e3 e4 HI
    generalize concV e = T at *
    go_enter Tryz.func39, Tryz.ntmps39
    go_wp2
    go_returns
    exact ⟨by rw [HP.out], 0, _, rfl⟩
  by_cases e5 : e.kind = 5
  · skip
    have k1 : (e.kind == 1) = false := beq_eq_false_iff_ne.2 e1
    have k2 : (e.kind == 2) = false := beq_eq_false_iff_ne.2 e2
    have k3 : (e.kind == 3) = false := beq_eq_false_iff_ne.2 e3
    have k4 : (e.kind == 4) = false := beq_eq_false_iff_ne.2 e4
    have k5 : (e.kind == 5) = true := by rw [e5]; rfl
    have h1 : concT e = ⟨#[]⟩ := by unfold concT; rw [if_neg (by omega)]
    have h2 : concI e = (dAt e.fresh 0).id := by unfold concI; rw [if_neg (by omega), if_pos (by omega)]
    have h3 : concP e = 0 := by unfold concP; rw [if_pos (by omega)]
    rw [h1, h2, h3] at hp
    have hn : 0 < e.fresh.length := by rw [hfl]; unfold newsN; rw [if_pos (by omega)]; omega
    obtain ⟨d, hdi⟩ : ∃ d, e.fresh[0]? = some d := ⟨_, List.getElem?_eq_getElem hn⟩
    obtain ⟨b, o, an, cn, sa, cs, rfl, hbl, hcell, -⟩ := decls_elem HI.out.fresh hdi
    have x0 := hcell 0 _ rfl
    have x0 : w.cell? ⟨b, o, none⟩ = some (.int .i64 d.id) := by simpa using x0
    rw [dAt_of hdi] at hp
    have hni : (0 : Int) < (e.fresh.length : Int) := by omega
    clear hcell hdi
    have HP := Lib.hid hp
    clear hp h1 h2 h3 hol hfl hlo hhi e1 e2 e3 e4 e5 HI
    generalize concV e = T at *
    go_enter Tryz.func39, Tryz.ntmps39
    go_wp2
    go_returns
    exact ⟨by rw [HP.out], 0, _, rfl⟩
  by_cases e6 : e.kind = 6
  · skip
    have k1 : (e.kind == 1) = false := beq_eq_false_iff_ne.2 e1
    have k2 : (e.kind == 2) = false := beq_eq_false_iff_ne.2 e2
    have k3 : (e.kind == 3) = false := beq_eq_false_iff_ne.2 e3
    have k4 : (e.kind == 4) = false := beq_eq_false_iff_ne.2 e4
    have k5 : (e.kind == 5) = false := beq_eq_false_iff_ne.2 e5
    have k6 : (e.kind == 6) = true := by rw [e6]; rfl
    have h1 : concT e = ⟨#[]⟩ := by unfold concT; rw [if_neg (by omega)]
    have h2 : concI e = (dAt e.old 0).id := by unfold concI; rw [if_neg (by omega), if_neg (by omega)]
    have h3 : concP e = 0 := by unfold concP; rw [if_pos (by omega)]
    rw [h1, h2, h3] at hp
    have hn : 0 < e.old.length := by rw [hol]; unfold oldsN; rw [if_pos (by omega)]; omega
    obtain ⟨d, hdi⟩ : ∃ d, e.old[0]? = some d := ⟨_, List.getElem?_eq_getElem hn⟩
    obtain ⟨b, o, an, cn, sa, cs, rfl, hbl, hcell, -⟩ := decls_elem HI.out.old hdi
    have x0 := hcell 0 _ rfl
    have x0 : w.cell? ⟨b, o, none⟩ = some (.int .i64 d.id) := by simpa using x0
    rw [dAt_of hdi] at hp
    have hni : (0 : Int) < (e.old.length : Int) := by omega
    clear hcell hdi
    have HP := Lib.hid hp
    clear hp h1 h2 h3 hol hfl hlo hhi e1 e2 e3 e4 e5 e6 HI
    generalize concV e = T at *
    go_enter Tryz.func39, Tryz.ntmps39
    go_wp2
    go_returns
    exact ⟨by rw [HP.out], 0, _, rfl⟩
  by_cases e7 : e.kind = 7
  · skip
    have k1 : (e.kind == 1) = false := beq_eq_false_iff_ne.2 e1
    have k2 : (e.kind == 2) = false := beq_eq_false_iff_ne.2 e2
    have k3 : (e.kind == 3) = false := beq_eq_false_iff_ne.2 e3
    have k4 : (e.kind == 4) = false := beq_eq_false_iff_ne.2 e4
    have k5 : (e.kind == 5) = false := beq_eq_false_iff_ne.2 e5
    have k6 : (e.kind == 6) = false := beq_eq_false_iff_ne.2 e6
    have h1 : concT e = ⟨#[]⟩ := by unfold concT; rw [if_neg (by omega)]
    have h2 : concI e = (dAt e.old 0).id := by unfold concI; rw [if_neg (by omega), if_neg (by omega)]
    have h3 : concP e = e.kind := by unfold concP; rw [if_neg (by omega)]
    rw [h1, h2, h3] at hp
    have hn : 0 < e.old.length := by rw [hol]; unfold oldsN; rw [if_pos (by omega)]; omega
    obtain ⟨d, hdi⟩ : ∃ d, e.old[0]? = some d := ⟨_, List.getElem?_eq_getElem hn⟩
    obtain ⟨b, o, an, cn, sa, cs, rfl, hbl, hcell, -⟩ := decls_elem HI.out.old hdi
    have x0 := hcell 0 _ rfl
    have x0 : w.cell? ⟨b, o, none⟩ = some (.int .i64 d.id) := by simpa using x0
    rw [dAt_of hdi] at hp
    have hni : (0 : Int) < (e.old.length : Int) := by omega
    clear hcell hdi
    have HP := Lib.hid hp
    clear hp h1 h2 h3 hol hfl hlo hhi e1 e2 e3 e4 e5 e6 e7 HI
    generalize concV e = T at *
    go_enter Tryz.func39, Tryz.ntmps39
    go_upto_region 12 with (fail)
    go_region
    all_goals (go_wp2; go_returns; exact ⟨by rw [HP.out], 1, _, rfl⟩)
  by_cases e8 : e.kind = 8
  · skip
    have k1 : (e.kind == 1) = false := beq_eq_false_iff_ne.2 e1
    have k2 : (e.kind == 2) = false := beq_eq_false_iff_ne.2 e2
    have k3 : (e.kind == 3) = false := beq_eq_false_iff_ne.2 e3
    have k4 : (e.kind == 4) = false := beq_eq_false_iff_ne.2 e4
    have k5 : (e.kind == 5) = false := beq_eq_false_iff_ne.2 e5
    have k6 : (e.kind == 6) = false := beq_eq_false_iff_ne.2 e6
    have h1 : concT e = ⟨#[]⟩ := by unfold concT; rw [if_neg (by omega)]
    have h2 : concI e = (dAt e.old 0).id := by unfold concI; rw [if_neg (by omega), if_neg (by omega)]
    have h3 : concP e = e.kind := by unfold concP; rw [if_neg (by omega)]
    rw [h1, h2, h3] at hp
    have hn : 0 < e.old.length := by rw [hol]; unfold oldsN; rw [if_pos (by omega)]; omega
    obtain ⟨d, hdi⟩ : ∃ d, e.old[0]? = some d := ⟨_, List.getElem?_eq_getElem hn⟩
    obtain ⟨b, o, an, cn, sa, cs, rfl, hbl, hcell, -⟩ := decls_elem HI.out.old hdi
    have x0 := hcell 0 _ rfl
    have x0 : w.cell? ⟨b, o, none⟩ = some (.int .i64 d.id) := by simpa using x0
    rw [dAt_of hdi] at hp
    have hni : (0 : Int) < (e.old.length : Int) := by omega
    clear hcell hdi
    have HP := Lib.hid hp
    clear hp h1 h2 h3 hol hfl hlo hhi e1 e2 e3 e4 e5 e6 e7 e8 HI
    generalize concV e = T at *
    go_enter Tryz.func39, Tryz.ntmps39
    go_upto_region 12 with (fail)
    go_region
    all_goals (go_wp2; go_returns; exact ⟨by rw [HP.out], 1, _, rfl⟩)
  have e9 : e.kind = 9 := by omega
  have k1 : (e.kind == 1) = false := beq_eq_false_iff_ne.2 e1
  have k2 : (e.kind == 2) = false := beq_eq_false_iff_ne.2 e2
  have k3 : (e.kind == 3) = false := beq_eq_false_iff_ne.2 e3
  have k4 : (e.kind == 4) = false := beq_eq_false_iff_ne.2 e4
  have k5 : (e.kind == 5) = false := beq_eq_false_iff_ne.2 e5
  have k6 : (e.kind == 6) = false := beq_eq_false_iff_ne.2 e6
  have h1 : concT e = ⟨#[]⟩ := by unfold concT; rw [if_neg (by omega)]
  have h2 : concI e = (dAt e.old 0).id := by unfold concI; rw [if_neg (by omega), if_neg (by omega)]
  have h3 : concP e = e.kind := by unfold concP; rw [if_neg (by omega)]
  rw [h1, h2, h3] at hp
  have hn : 0 < e.old.length := by rw [hol]; unfold oldsN; rw [if_pos (by omega)]; omega
  obtain ⟨d, hdi⟩ : ∃ d, e.old[0]? = some d := ⟨_, List.getElem?_eq_getElem hn⟩
  obtain ⟨b, o, an, cn, sa, cs, rfl, hbl, hcell, -⟩ := decls_elem HI.out.old hdi
  have x0 := hcell 0 _ rfl
  have x0 : w.cell? ⟨b, o, none⟩ = some (.int .i64 d.id) := by simpa using x0
  rw [dAt_of hdi] at hp
  have hni : (0 : Int) < (e.old.length : Int) := by omega
  clear hcell hdi
  have HP := Lib.hid hp
  clear hp h1 h2 h3 hol hfl hlo hhi e1 e2 e3 e4 e5 e6 e7 e8 e9 HI
  generalize concV e = T at *
  go_enter Tryz.func39, Tryz.ntmps39
  go_upto_region 12 with (fail)
  go_region
  all_goals (go_wp2; go_returns; exact ⟨by rw [HP.out], 1, _, rfl⟩)
end Go.Proofs.YtlcpdhionefmbaaGreatDoor
