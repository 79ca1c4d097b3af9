/- The reference's Find and one of chapter 33. -/
import Derived.Test.YtlgnedahnaojlaaGreatDoorUYC
namespace Go.Proofs.YtlgnedahnaojlaaGreatDoor
open Go.RowKit Go.Shelf
attribute [local go_sem] Oper.semAt_some

structure FoundD (od : Option ODecl) (X : List Nat) (w : World) (e : Ending) (w' : World) : Prop where
  of ::
  out : ∃ an cn sa cs, e = .returned (.tuple #[declV (od.getD noDecl) an cn sa cs, .bool od.isSome]) ∧ DecX w' X (od.getD noDecl) an cn sa cs ∧ Below w.heap.size w w'
theorem FoundD.no {od : Option ODecl} {X : List Nat} {w w' : World} (h : od = none) (hb : Bw w w') : FoundD od X w (.returned (.tuple #[.agg #[.int .i64 0, .int .i64 0, .bool false, .slice none 0 0, .bool false, .int .i64 0, .string ⟨#[]⟩, .string ⟨#[]⟩, .int .i64 0, .int .i64 0, .slice none 0 0], .bool false])) w' := by
 subst h; exact ⟨none, 0, none, 0, rfl, noDecl_in _ _, hb⟩
theorem FoundD.yes {od : Option ODecl} {X : List Nat} {w w' : World} {d : ODecl} {an : Option Addr} {cn : Nat} {sa : Option Addr} {cs : Nat} (h : od = some d) (hd : DecX w' X d an cn sa cs) (hb : Bw w w') : FoundD od X w (.returned (.tuple #[declV d an cn sa cs, .bool true])) w' := by
 subst h; exact ⟨an, cn, sa, cs, rfl, hd, hb⟩
theorem findD_at {l : List ODecl} {i : Nat} {d : ODecl} {id : Int} (h : ∀ (j : Nat) (x : ODecl), j < i → l[j]? = some x → x.id ≠ id) (hi : l[i]? = some d) (hd : d.id = id) : findD l id = some d := by
 unfold findD; have hil := (List.getElem?_eq_some_iff.1 hi).1
 rw [show l = l.take i ++ (d :: l.drop (i + 1)) by rw [← (List.getElem?_eq_some_iff.1 hi).2, List.getElem_cons_drop, List.take_append_drop], List.find?_append, List.find?_eq_none.2 (fun x hx => by
  obtain ⟨j, hj, rfl⟩ := List.mem_iff_getElem.1 hx; rw [List.length_take] at hj; have := h j _ (by omega) (List.getElem?_eq_getElem (by omega)); rw [List.getElem_take]
  simpa using this)]
 rw [Option.none_or, List.find?_cons, beq_iff_eq.2 hd]
theorem findD_no {l : List ODecl} {id : Int} (h : ∀ (j : Nat) (x : ODecl), l[j]? = some x → x.id ≠ id) : findD l id = none := by
 unfold findD; rw [List.find?_eq_none]; intro x hx; obtain ⟨j, hj⟩ := List.mem_iff_getElem?.1 hx
 simpa using h j x hj
set_option maxRecDepth 100000 in
set_option maxHeartbeats 4000000 in
theorem r33Find_any (m : OMod) (id : Int) (aum adm : Option Addr) (cum cdm : Nat) (X : List Nat) (w : World) (hm : ModIn w X m aum cum adm cdm) (hn : m.decls.length ≤ 1000000) :
  Calls Tryz.prog 85 #[modV m aum cum adm cdm, .int .i64 id] w (FoundD (findD m.decls id) X w) := by
 obtain ⟨hb, hr, hA⟩ := two_boxes w 25 46 (mA m aum cum adm cdm) dZ; have HMD := lH (hm.more (k := w.heap.size + 1) (by omega)).decls; clear hm; unfold modV
 go_enter Tryz.func85, Tryz.ntmps85
 go_upto_region 1 with (fail)
 generalize (w.alloc (.cells (mA m aum cum adm cdm) 25)).alloc (.cells dZ 46) = W0 at *; obtain ⟨R, hR⟩ : ∃ R, w.heap.size + 1 = R := ⟨_, rfl⟩; rw [hR] at hr HMD ⊢; have hRl : w.heap.size < R := by omega
 have HMB := lH hb; have HRB := lH hr; have HA := lH hA; obtain ⟨B, hB⟩ : ∃ B, w.heap.size = B := ⟨_, rfl⟩; rw [hB] at HMB ⊢; have HMD0 := lH (HMD.out.below HA.out); clear hR hb hr hA hB HMD; go_wp2
 go_loopw [6] (fun iv wr => ∃ i : Nat, i ≤ m.decls.length ∧ iv = .int .i64 i ∧ Hid (∀ (j : Nat) (x : ODecl), j < i → m.decls[j]? = some x → x.id ≠ id) ∧ Hid (Bw W0 wr)) (fun iv _ => m.decls.length - (intOf iv).toNat)
 case atStart => exact ⟨0, Nat.zero_le _, rfl, fun j x hj => absurd hj (Nat.not_lt_zero _), qrefl _⟩
 case round =>
  obtain ⟨i, hil, rfl, HN, HBW⟩ := hrel; have hmb := HMB.out.below HBW.out; have y2 := hmb.cell (i := 2) (v := .slice adm m.decls.length cdm) rfl; have yl := hmb.lt; have HR1 := lH (HRB.out.below HBW.out); have HW : Hid (Bw w wr) := HA.out.trans (HBW.out.mono HA.out.size); clear hmb
  by_cases hi : i < m.decls.length
  ·have hd : decide ((i : Int) < (m.decls.length : Int)) = true := decide_eq_true (by omega)
   have hir : (i : Int) < (m.decls.length : Int) := by omega
   obtain ⟨d, hdi⟩ : ∃ d, m.decls[i]? = some d := ⟨_, List.getElem?_eq_getElem hi⟩; obtain ⟨db, dx, and, cnd, asd, csd, rfl, hdb, hdc, h1, h2, h3, h4, h5, h6⟩ := decls_elem (HMD0.out.below HBW.out) hdi; have c0 := hdc 0 (.int .i64 d.id) rfl; rw [Nat.add_zero] at c0
   by_cases he : d.id = id
   ·have HF := lH (findD_at HN.out hdi he)
    have hq : (d.id == id) = true := by simp [he]
    have HDX : Hid (DecX wr (R :: X) d and cnd asd csd) := ⟨h3.out, h6.out, h1, h2, h4, h5⟩; clear HN hdi he; have c1 := hdc 1 (.int .i64 d.kind) rfl; have c2 := hdc 2 (.bool d.pub) rfl; have c3 := hdc 3 (.slice and d.names.length cnd) rfl; have c4 := hdc 4 (.bool d.doubt) rfl; have c5 := hdc 5 (.int .i64 d.body.kind) rfl; have c6 := hdc 6 (.string d.body.name) rfl; have c7 := hdc 7 (.string d.body.more) rfl; have c8 := hdc 8 (.int .i64 d.body.num) rfl; have c9 := hdc 9 (.int .i64 d.body.den) rfl; have c10 := hdc 10 (.slice asd d.body.subs.length csd) rfl; clear hdc
    obtain ⟨o0, o1, o2, o3, o4, o5, o6, o7, o8, o9, o10, ol⟩ := cells11 HR1.out; obtain ⟨fo0, fo1, fo2, fo3, fo4, fo5, fo6, fo7, fo8, fo9, fo10⟩ := frozen11 HR1.out; go_wp2; clear o0 o1 o2 o3 o4 o5 o6 o7 o8 o9 o10 fo0 fo1 fo2 fo3 fo4 fo5 fo6 fo7 fo8 fo9 fo10 ol c0 c1 c2 c3 c4 c5 c6 c7 c8 c9 c10; obtain ⟨HC9, HM9⟩ := CBox.putD (HR1.out) d and cnd asd csd; generalize World.setCell _ ⟨R, 10, none⟩ _ = WZ at *; obtain ⟨r0, r1, r2, r3, r4, r5, r6, r7, r8, r9, r10, -⟩ := cells11 HC9
    refine bodyPost_ret (by simp [results, Tryz.results85, go_sem, r0, r1, r2, r3, r4, r5, r6, r7, r8, r9, r10]; try rfl) rfl ?_; clear r0 r1 r2 r3 r4 r5 r6 r7 r8 r9 r10; have hdZ : Bw w WZ := HW.out.trans (HM9.upto HW.out.size (by intro k hk; simp at hk; omega)); exact FoundD.yes HF.out ((HDX.out.mod (HM9.mono inC)).fewer inT) hdZ
   ·have hq : (d.id == id) = false := by simp [he]
    have HN2 : Hid (∀ (j : Nat) (x : ODecl), j < i + 1 → m.decls[j]? = some x → x.id ≠ id) := fun j x hj hx => by
     by_cases e : j = i
     ·subst e; rw [hdi] at hx; injection hx with hx; subst hx; exact he
     ·exact HN.out j x (by omega) hx
    clear HN hdi he hdc h3 h6; go_wp2; go_roundw
    case rel => exact ⟨i + 1, by omega, by go_num, HN2, HBW⟩
    case measure => simp [intOf]; omega
  ·have hd : decide ((i : Int) < (m.decls.length : Int)) = false := decide_eq_false (by omega)
   have HF : Hid (findD m.decls id = none) := findD_no (fun j x hj => HN.out j x (by have := (List.getElem?_eq_some_iff.1 hj).1; omega) hj); clear HN; obtain ⟨o0, o1, o2, o3, o4, o5, o6, o7, o8, o9, o10, ol⟩ := cells11 HR1.out; obtain ⟨fo0, fo1, fo2, fo3, fo4, fo5, fo6, fo7, fo8, fo9, fo10⟩ := frozen11 HR1.out; go_wp2; clear o0 o1 o2 o3 o4 o5 o6 o7 o8 o9 o10 fo0 fo1 fo2 fo3 fo4 fo5 fo6 fo7 fo8 fo9 fo10 ol ; obtain ⟨HC9, HM9⟩ := CBox.putZ (HR1.out); generalize World.setCell _ ⟨R, 10, none⟩ _ = WZ at *; obtain ⟨r0, r1, r2, r3, r4, r5, r6, r7, r8, r9, r10, -⟩ := cells11 HC9
   refine bodyPost_ret (by simp [results, Tryz.results85, go_sem, r0, r1, r2, r3, r4, r5, r6, r7, r8, r9, r10]; try rfl) rfl ?_; clear r0 r1 r2 r3 r4 r5 r6 r7 r8 r9 r10; have hdZ : Bw w WZ := HW.out.trans (HM9.upto HW.out.size (by intro k hk; simp at hk; omega)); exact FoundD.no HF.out hdZ
end Go.Proofs.YtlgnedahnaojlaaGreatDoor

