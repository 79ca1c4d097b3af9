/- only of the laws of chapter 33. -/
import Derived.Test.YtlgnedahnaojlaaGreatDoorJYH
namespace Go.Proofs.YtlgnedahnaojlaaGreatDoor
open Go.RowKit Go.Shelf
attribute [local go_sem] Oper.semAt_some

theorem ModIn.owned {w : World} {X : List Nat} {m : OMod} {au : Option Addr} {cu : Nat} {ad : Option Addr} {cd : Nat} (h : ModIn w X m au cu ad cd) (v : Value) (hv : ∀ g, v.ownBlock = some g → w.heap.size ≤ g) : ModIn w (v.ownBlock.toList ++ X) m au cu ad cd := by
  cases hb : v.ownBlock with
  | none => exact h
  | some g => exact h.more (hv g hb)
theorem only_next {l : List ODecl} {i : Nat} {d : ODecl} {id : Int} (h : l[i]? = some d) : (l.take (i + 1)).filter (fun d => d.id == id) = (l.take i).filter (fun d => d.id == id) ++ (if d.id == id then [d] else []) := by
  rw [take_at h, List.filter_append]
  cases hp : (d.id == id) <;> simp [hp]
set_option maxRecDepth 100000 in
set_option maxHeartbeats 4000000 in
theorem only33_any (m : OMod) (id : Int) (aum adm : Option Addr) (cum cdm : Nat) (X : List Nat) (w : World) (hX : ∀ k, k ∈ X → k < w.heap.size) (hm : ModIn w X m aum cum adm cdm) (hn : m.decls.length ≤ 1000000) :
    Calls Tryz.prog 20 #[modV m aum cum adm cdm, .int .i64 id] w fun e w' => ∃ ad cd, e = .returned (modV (onlyM m id) none 0 ad cd) ∧ ModIn w' X (onlyM m id) none 0 ad cd ∧ Below w.heap.size w w' := by
  obtain ⟨hb, hr, hA⟩ := two_boxes w 25 25 #[.string m.label, .slice aum m.uses.length cum, .slice adm m.decls.length cdm] #[.string ⟨#[]⟩, .slice none 0 0, .slice none 0 0]
  have HX := Lib.hid hX
  have HM := Lib.hid hm
  have hOE : onlyM m id = ⟨m.label, [], m.decls.filter fun d => d.id == id⟩ := rfl
  have HOE := Lib.hid hOE
  clear hm hX hOE
  unfold modV
  go_enter Tryz.func20, Tryz.ntmps20
  go_upto_region 1 with (fail)
  generalize (w.alloc (.cells #[.string m.label, .slice aum m.uses.length cum, .slice adm m.decls.length cdm] 25)).alloc (.cells #[.string ⟨#[]⟩, .slice none 0 0, .slice none 0 0] 25) = W0 at *
  obtain ⟨R, hR⟩ : ∃ R, w.heap.size + 1 = R := ⟨_, rfl⟩
  rw [hR] at hr ⊢
  have HRW : Hid (w.heap.size + 1 = R) := hR
  have HR := Lib.hid hr
  have HB := Lib.hid hb
  have HA := Lib.hid hA
  obtain ⟨B, hB⟩ : ∃ B, w.heap.size = B := ⟨_, rfl⟩
  rw [hB] at HB ⊢
  clear hR hB hr hb hA
  have y0 := (HB.out).cell (i := 0) (v := .string m.label) rfl
  have y1 := (HB.out).cell (i := 1) (v := .slice aum m.uses.length cum) rfl
  have y2 := (HB.out).cell (i := 2) (v := .slice adm m.decls.length cdm) rfl
  have yl := (HB.out).lt
  have hal := qalloc W0 (.cells #[.string m.label, .slice none 0 0, .slice none 0 0] 25)
  have HQ := Lib.hid (CBox.new W0 25 #[.string m.label, .slice none 0 0, .slice none 0 0])
  have HR1 := Lib.hid (HR.out.below hal)
  have HB1 := Lib.hid (HB.out.below hal)
  have HW1 := Lib.hid (HA.out.trans (hal.mono HA.out.size))
  have hs1 : (W0.alloc (.cells #[.string m.label, .slice none 0 0, .slice none 0 0] 25)).heap.size = W0.heap.size + 1 := World.size_alloc _ _
  have HQR : Hid (R < W0.heap.size) := HR.out.lt
  have HM1 : Hid (ModIn _ (W0.heap.size :: R :: X) m aum cum adm cdm) := (((HM.out.more (k := R) (by have := HRW.out; omega)).below HA.out).more (Nat.le_refl _)).below hal
  clear hal y0 y1 y2 yl
  have y0 := HB1.out.cell (i := 0) (v := .string m.label) rfl
  clear y0
  have y0 := (HB.out).cell (i := 0) (v := .string m.label) rfl
  have y1 := (HB.out).cell (i := 1) (v := .slice aum m.uses.length cum) rfl
  have y2 := (HB.out).cell (i := 2) (v := .slice adm m.decls.length cdm) rfl
  have yl := (HB.out).lt
  go_upto_region 2 with (fail)
  clear y0 y1 y2 yl
  generalize W0.alloc (.cells #[.string m.label, .slice none 0 0, .slice none 0 0] 25) = W1 at *
  obtain ⟨Q, hQ⟩ : ∃ Q, W0.heap.size = Q := ⟨_, rfl⟩
  rw [hQ] at HQ HQR HM1 hs1 ⊢
  have HSZ : Hid (w.heap.size < R ∧ R < Q ∧ W1.heap.size = Q + 1) := ⟨by have := HRW.out; omega, HQR.out, hs1⟩
  clear hQ hs1 HA HB HR HRW HQR
  have y0 := (HB1.out).cell (i := 0) (v := .string m.label) rfl
  have y1 := (HB1.out).cell (i := 1) (v := .slice aum m.uses.length cum) rfl
  have y2 := (HB1.out).cell (i := 2) (v := .slice adm m.decls.length cdm) rfl
  have yl := (HB1.out).lt
  go_wp2
  clear y0 y1 y2 yl
  go_loopw [14] (fun iv wr => ∃ (i : Nat) (v : Value), i ≤ m.decls.length ∧ iv = .int .i64 i ∧ Hid (CBox wr Q 25 #[.string m.label, .slice none 0 0, v]) ∧ Hid (OwnT wr (Q :: R :: X) W1.heap.size 46 11 declT v ((m.decls.take i).filter fun d => d.id == id)) ∧ Hid (Mod [Q] W1 wr)) (fun iv _ => m.decls.length - (intOf iv).toNat)
  case atStart => exact ⟨0, .slice none 0 0, Nat.zero_le _, rfl, HQ, OwnT.nil _ _ _ _ _ _, Mod.refl _ _⟩
  case round =>
    obtain ⟨i, v, hil, rfl, HBX, HOW, HMD⟩ := hrel
    clear HQ
    have HMM : Hid (Mod (v.ownBlock.toList ++ (Q :: R :: X)) W1 wr) := HMD.out.mono (fun k hk => by rw [List.mem_singleton.1 hk]; exact List.mem_append_right _ (List.mem_cons_self ..))
    have HMr := Lib.hid ((HM1.out.owned v (fun g hg => HOW.out.ge hg)).mod HMM.out)
    by_cases hi : i < m.decls.length
    · have hd : decide ((i : Int) < (m.decls.length : Int)) = true := decide_eq_true (by omega)
      have hir : (i : Int) < (m.decls.length : Int) := by omega
      obtain ⟨d, hdi⟩ : ∃ d, m.decls[i]? = some d := ⟨_, List.getElem?_eq_getElem hi⟩
      obtain ⟨db, dx, and, cnd, asd, csd, rfl, hdb, hdc, h1, h2, h3, h4, h5, h6⟩ := decls_elem HMr.out.decls hdi
      have HDX : Hid (DecX wr (v.ownBlock.toList ++ (Q :: R :: X)) d and cnd asd csd) := ⟨h3.out, h6.out, h1, h2, h4, h5⟩
      have HON := Lib.hid (only_next (id := id) hdi)
      have HLN : Hid (((m.decls.take i).filter fun d => d.id == id).length ≤ 1000000) := Nat.le_trans (List.length_filter_le _ _) (by rw [List.length_take]; omega)
      clear hdi h3 h6
      have c0 := hdc 0 (.int .i64 d.id) rfl
      have c1 := hdc 1 (.int .i64 d.kind) rfl
      have c2 := hdc 2 (.bool d.pub) rfl
      have c3 := hdc 3 (.slice and d.names.length cnd) rfl
      have c4 := hdc 4 (.bool d.doubt) rfl
      have c5 := hdc 5 (.int .i64 d.body.kind) rfl
      have c6 := hdc 6 (.string d.body.name) rfl
      have c7 := hdc 7 (.string d.body.more) rfl
      have c8 := hdc 8 (.int .i64 d.body.num) rfl
      have c9 := hdc 9 (.int .i64 d.body.den) rfl
      have c10 := hdc 10 (.slice asd d.body.subs.length csd) rfl
      rw [Nat.add_zero] at c0
      clear hdc
      have hal := qalloc wr (.cells #[.int .i64 d.id, .int .i64 d.kind, .bool d.pub, .slice and d.names.length cnd, .bool d.doubt, .int .i64 d.body.kind, .string d.body.name, .string d.body.more, .int .i64 d.body.num, .int .i64 d.body.den, .slice asd d.body.subs.length csd] 46)
      have HN := Lib.hid (CBox.new wr 46 #[.int .i64 d.id, .int .i64 d.kind, .bool d.pub, .slice and d.names.length cnd, .bool d.doubt, .int .i64 d.body.kind, .string d.body.name, .string d.body.more, .int .i64 d.body.num, .int .i64 d.body.den, .slice asd d.body.subs.length csd])
      have HBX2 := Lib.hid (HBX.out.below hal)
      have HOW2 := Lib.hid (HOW.out.below hal)
      have HMD2 : Hid (Mod [Q] W1 _) := HMD.out.trans (Mod.of hal)
      have HDX2 := Lib.hid (HDX.out.below hal)
      clear hal
      go_upto_region 5 with (fail)
      clear c0 c1 c2 c3 c4 c5 c6 c7 c8 c9 c10 hdb
      generalize wr.alloc (.cells #[.int .i64 d.id, .int .i64 d.kind, .bool d.pub, .slice and d.names.length cnd, .bool d.doubt, .int .i64 d.body.kind, .string d.body.name, .string d.body.more, .int .i64 d.body.num, .int .i64 d.body.den, .slice asd d.body.subs.length csd] 46) = wc at *
      generalize wr.heap.size = N at *
      clear HBX HOW HMD HMM HMr HDX
      have n0 := (HN.out).cell (i := 0) (v := .int .i64 d.id) rfl
      have n1 := (HN.out).cell (i := 1) (v := .int .i64 d.kind) rfl
      have n2 := (HN.out).cell (i := 2) (v := .bool d.pub) rfl
      have n3 := (HN.out).cell (i := 3) (v := .slice and d.names.length cnd) rfl
      have n4 := (HN.out).cell (i := 4) (v := .bool d.doubt) rfl
      have n5 := (HN.out).cell (i := 5) (v := .int .i64 d.body.kind) rfl
      have n6 := (HN.out).cell (i := 6) (v := .string d.body.name) rfl
      have n7 := (HN.out).cell (i := 7) (v := .string d.body.more) rfl
      have n8 := (HN.out).cell (i := 8) (v := .int .i64 d.body.num) rfl
      have n9 := (HN.out).cell (i := 9) (v := .int .i64 d.body.den) rfl
      have n10 := (HN.out).cell (i := 10) (v := .slice asd d.body.subs.length csd) rfl
      have nl := (HN.out).lt
      obtain ⟨q, hq⟩ : ∃ q, (d.id == id) = q := ⟨_, rfl⟩
      rw [hq] at HON
      cases q with
      | false =>
        have HON2 := Lib.hid (HON.out.trans (by rw [if_neg Bool.false_ne_true, List.append_nil]))
        go_wp2
        go_roundw
        case rel => exact ⟨i + 1, v, by omega, by go_num, HBX2, by rw [HON2.out]; exact HOW2, HMD2⟩
        case measure => simp [intOf]; omega
      | true =>
        have HON2 := Lib.hid (HON.out.trans (by rw [if_pos rfl]))
        obtain ⟨av, cv, hve, -, -⟩ := HOW2.out.val
        have HVE := Lib.hid hve
        clear hve HON
        have k2 := HBX2.out.cell (i := 2) (v := v) rfl
        have kl := HBX2.out.lt
        have hal := qalloc wc (.cells #[.int .i64 d.id, .int .i64 d.kind, .bool d.pub, .slice and d.names.length cnd, .bool d.doubt, .int .i64 d.body.kind, .string d.body.name, .string d.body.more, .int .i64 d.body.num, .int .i64 d.body.den, .slice asd d.body.subs.length csd] 46)
        have HRB := Lib.hid (CBox.new wc 46 #[.int .i64 d.id, .int .i64 d.kind, .bool d.pub, .slice and d.names.length cnd, .bool d.doubt, .int .i64 d.body.kind, .string d.body.name, .string d.body.more, .int .i64 d.body.num, .int .i64 d.body.den, .slice asd d.body.subs.length csd])
        have HOA := Lib.hid (HOW2.out.below hal)
        have HBA := Lib.hid (HBX2.out.below hal)
        have HDA := Lib.hid (HDX2.out.below hal)
        have HMA : Hid (Mod [Q] W1 (wc.alloc (.cells #[.int .i64 d.id, .int .i64 d.kind, .bool d.pub, .slice and d.names.length cnd, .bool d.doubt, .int .i64 d.body.kind, .string d.body.name, .string d.body.more, .int .i64 d.body.num, .int .i64 d.body.den, .slice asd d.body.subs.length csd] 46))) := HMD2.out.trans (Mod.of hal)
        have hsz : W1.heap.size ≤ (wc.alloc (.cells #[.int .i64 d.id, .int .i64 d.kind, .bool d.pub, .slice and d.names.length cnd, .bool d.doubt, .int .i64 d.body.kind, .string d.body.name, .string d.body.more, .int .i64 d.body.num, .int .i64 d.body.den, .slice asd d.body.subs.length csd] 46)).heap.size := HMA.out.size
        have hlen := HLN.out

        have HQ9 : Hid (Q < W1.heap.size) := by have := HSZ.out; show _ < _; omega
        clear hal
        go_wp2_with (at_builtin; refine wpList_decl (v := v) (X := Q :: R :: X) (L := (m.decls.take i).filter fun d => d.id == id) (B := wc.heap.size) (d := d) (an := and) (cn := cnd) (sa := asd) (cs := csd) rfl _ _ rfl rfl HOA.out rfl HRB.out HDA.out (by omega) hsz ?_; rintro v' w' ho7 hm7 ⟨a7, c7, hv7⟩ hb7; have HB7 := Lib.hid (HBA.out.mod hm7 (fun hk => by have h1 := HOA.out.ge (by simpa using hk : v.ownBlock = some Q); have h2 := HQ9.out; omega)); have HM7 : Hid (Mod [Q] W1 w') := HMA.out.after hm7 (fun g hg => HOA.out.ge (by simpa using hg)); have k2 := HB7.out.cell (i := 2) (v := v) rfl; have kf := HB7.out.frozen 2; have kl := HB7.out.lt; have HO7 := Lib.hid ho7; clear ho7 hm7)
        have hvv : v' = .slice a7 (((m.decls.take i).filter fun d => d.id == id).length + 1) c7 := by rw [hv7, List.length_append]; rfl
        rw [← hvv]
        have hge : ∀ g, v'.ownBlock = some g → g ∉ Q :: R :: X := fun g hg hx => by
          have h1 := HO7.out.ge hg
          have h9 := HSZ.out
          rcases List.mem_cons.1 hx with rfl | hx
          · omega
          · rcases List.mem_cons.1 hx with rfl | hx
            · omega
            · have h2 := HX.out g hx; omega
        refine ⟨⟨i + 1, v', by omega, rfl, HB7.out.set 2 v', ?_, HM7.out.trans ((Mod.refl [Q] w').setCell (by simp) v')⟩, by simp [intOf]; omega⟩
        show OwnT _ _ _ _ _ _ _ _
        rw [HON2.out]
        exact HO7.out.mod ((Mod.refl (Q :: R :: X) w').setCell (by simp) v') hge
    · have hd : decide ((i : Int) < (m.decls.length : Int)) = false := decide_eq_false (by omega)
      have HOI := HOW.out
      rw [List.take_of_length_le (by omega)] at HOI
      have HRr : Hid (CBox wr R 25 #[.string ⟨#[]⟩, .slice none 0 0, .slice none 0 0]) := HR1.out.mod HMD.out (by have := HSZ.out; simp; omega)
      have HWr : Hid (Below w.heap.size w wr) := HW1.out.trans (HMD.out.upto HW1.out.size (fun k hk => by have := HSZ.out; simp at hk; omega))
      clear HOW HMM HMr
      generalize m.decls.filter (fun d => d.id == id) = DD at *
      obtain ⟨av, cv, rfl, hav1, hav2⟩ := HOI.val
      have HOX := Lib.hid HOI
      clear HOI

      have k0 := (HBX.out).cell (i := 0) (v := .string m.label) rfl
      have k1 := (HBX.out).cell (i := 1) (v := .slice none 0 0) rfl
      have k2 := (HBX.out).cell (i := 2) (v := .slice av DD.length cv) rfl
      have kl := (HBX.out).lt
      have o0 := (HRr.out).cell (i := 0) (v := .string ⟨#[]⟩) rfl
      have fo0 := (HRr.out).frozen 0
      have o1 := (HRr.out).cell (i := 1) (v := .slice none 0 0) rfl
      have fo1 := (HRr.out).frozen 1
      have o2 := (HRr.out).cell (i := 2) (v := .slice none 0 0) rfl
      have fo2 := (HRr.out).frozen 2
      have ol := (HRr.out).lt
      (try dsimp only)
      repeat (first | go_values | go_skip | go_guarded | go_step | go_upon | go_in)
      (try simp only [Exit.inBlock, Exit.then])
      clear o0 o1 o2 fo0 fo1 fo2 ol k0 k1 k2 kl
      obtain ⟨HC9, HM9⟩ := CBox.three (HRr.out) (.string m.label) (.slice none 0 0) (.slice av DD.length cv)
      generalize (((wr.setCell ⟨R, 0, none⟩ (.string m.label)).setCell ⟨R, 1, none⟩ (.slice none 0 0)).setCell ⟨R, 2, none⟩ (.slice av DD.length cv)) = WZ at *
      have r0 := HC9.cell (i := 0) (v := .string m.label) rfl
      have r1 := HC9.cell (i := 1) (v := .slice none 0 0) rfl
      have r2 := HC9.cell (i := 2) (v := .slice av DD.length cv) rfl
      refine bodyPost_ret (by simp [results, Tryz.results20, go_sem, r0, r1, r2]; try rfl) rfl ?_
      clear r0 r1 r2
      have hdZ : Below w.heap.size w WZ := HWr.out.trans (HM9.upto HWr.out.size (by intro k hk; simp at hk; have := HSZ.out; omega))
      have hmz : Mod (R :: X) wr WZ := HM9.mono (fun k hk => by rw [List.mem_singleton.1 hk]; exact List.mem_cons_self ..)
      have hge : ∀ g, (Value.slice av DD.length cv).ownBlock = some g → g ∉ R :: X := fun g hg hx => by
        have h1 := HOX.out.ge hg
        have h9 := HSZ.out
        rcases List.mem_cons.1 hx with rfl | hx
        · omega
        · have h2 := HX.out g hx; omega
      have hrd := (((HOX.out.fewer (Y := R :: X) (fun k hk => List.mem_cons_of_mem _ hk)).reads hge).mod hmz).fewer (Y := X) (fun k hk => List.mem_cons_of_mem _ hk)
      rw [HOE.out]
      exact ⟨av, cv, rfl, ⟨Reads.nilRow _ _ _ _, hrd, Nat.le_refl _, Nat.zero_le _, hav1, hav2⟩, hdZ⟩
end Go.Proofs.YtlgnedahnaojlaaGreatDoor

