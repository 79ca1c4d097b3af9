/- The reference's id, Independent of chapter 35. The reference's Swap of chapter 35. The reference's SameAll of edits. -/
import Derived.Test.YtlcpdhionefmbaaGreatDoorSEz
import Derived.Test.YtlcpdhionefmbaaGreatDoorSEn
import Derived.Test.YtlcpdhionefmbaaGreatDoorT9
import Derived.Test.YtlcpdhionefmbaaGreatDoorT8
namespace Go.Proofs.YtlcpdhionefmbaaGreatDoor
open Go.RowKit Go.Shelf
attribute [local go_sem] Oper.semAt_some

/-! What a checked edit concerns. -/
theorem labelS_nil : labelS ⟨#[]⟩ = false := by kernel_rfl
theorem use_text {e : OEdit} (h : editErr e = 0) (hk : e.kind = 3 ∨ e.kind = 4) : eqS e.text ⟨#[]⟩ = false := by
  obtain ⟨_, _, ht⟩ := editErr_zero.1 h
  have hm := ht ⟨e.pack, [e.text], []⟩ (by unfold testsOf; rw [if_neg (by omega), if_pos hk]; exact List.mem_singleton.2 rfl)
  unfold modErr at hm
  split at hm
  · split at hm
    · rename_i h2
      unfold usesErr at h2
      rw [if_neg (by simp), nzFrom_at _ (by simp : 0 < [e.text].length)] at h2
      split at h2
      · rename_i h3
        unfold useAt at h3
        split at h3
        · rename_i h4
          have h5 : sAt [e.text] 0 = e.text := rfl
          rw [h5] at h4
          cases hq : eqS e.text ⟨#[]⟩ with
          | false => rfl
          | true =>
            rw [eqS_iff.1 hq, labelS_nil] at h4
            cases h4
        · cases h3
      · rename_i h3; exact absurd h2 h3
    · rename_i h2; exact absurd hm h2
  · cases hm
theorem decl_id {e : OEdit} (h : editErr e = 0) {d : ODecl} (hk : 5 ≤ e.kind) (hd : d ∈ e.old ++ e.fresh) : 1 ≤ d.id := by
  obtain ⟨_, _, ht⟩ := editErr_zero.1 h
  have hm := ht ⟨e.pack, [], [compD e.kind d]⟩ (by unfold testsOf; rw [if_neg (by omega), if_neg (by omega)]; exact List.mem_map.2 ⟨d, hd, rfl⟩)
  unfold modErr at hm
  split at hm
  · split at hm
    · split at hm
      · split at hm
        · cases hm
        · rw [nzFrom_at _ (by simp : 0 < [compD e.kind d].length)] at hm
          split at hm
          · rename_i h3
            unfold declAt at h3
            split at h3
            · rename_i h4
              unfold declErr at h4
              have h5 : dAt [compD e.kind d] 0 = compD e.kind d := rfl
              rw [h5] at h4
              split at h4
              · cases h4
              · rename_i h6
                have h7 : (compD e.kind d).id = d.id := rfl
                rw [h7] at h6
                omega
            · rename_i h4; exact absurd h3 h4
          · rename_i h3; exact absurd hm h3
      · rename_i h3; exact absurd hm h3
    · rename_i h3; exact absurd hm h3
  · cases hm
theorem concI_pos {e : OEdit} (h : editErr e = 0) (hk : 5 ≤ e.kind) : 1 ≤ concI e := by
  have hf := fit_of h
  unfold concI
  rw [if_neg (by omega)]
  split
  · rename_i h5
    have hl : 0 < e.fresh.length := by rw [hf.fresh]; unfold newsN; rw [if_pos (by omega)]; omega
    rw [dAt_of (List.getElem?_eq_getElem hl)]
    exact decl_id h hk (List.mem_append_right _ (List.getElem_mem hl))
  · have hl : 0 < e.old.length := by rw [hf.old]; unfold oldsN; rw [if_pos (by omega)]; omega
    rw [dAt_of (List.getElem?_eq_getElem hl)]
    exact decl_id h hk (List.mem_append_left _ (List.getElem_mem hl))
def rindB (e f : OEdit) : Bool :=
  if eqS e.pack f.pack then (if e.kind ≤ 2 ∨ f.kind ≤ 2 then false else if e.kind ≤ 4 ∧ f.kind ≤ 4 then !(eqS e.text f.text) else if e.kind ≤ 4 ∨ f.kind ≤ 4 then true else if concI e ≠ concI f then true else decide (7 ≤ e.kind) && decide (7 ≤ f.kind) && (e.kind != f.kind)) else true
theorem rind_eq {e f : OEdit} (he : editErr e = 0) (hf : editErr f = 0) : rindB e f = indepB e f := by
  obtain ⟨⟨e1, e9⟩, _⟩ := editErr_zero.1 he
  obtain ⟨⟨f1, f9⟩, _⟩ := editErr_zero.1 hf
  have hT : ∀ g : OEdit, ¬ (g.kind = 3 ∨ g.kind = 4) → concT g = ⟨#[]⟩ := fun g h => by unfold concT; rw [if_neg h]
  have hU : ∀ g : OEdit, (g.kind = 3 ∨ g.kind = 4) → concT g = g.text := fun g h => by unfold concT; rw [if_pos h]
  have hI : ∀ g : OEdit, g.kind ≤ 4 → concI g = 0 := fun g h => by unfold concI; rw [if_pos h]
  have hP : ∀ g : OEdit, g.kind ≤ 6 → concP g = 0 := fun g h => by unfold concP; rw [if_pos h]
  have hQ : ∀ g : OEdit, ¬ g.kind ≤ 6 → concP g = g.kind := fun g h => by unfold concP; rw [if_neg h]
  have hZ : ∀ g : OEdit, editErr g = 0 → zeroC g = decide (g.kind ≤ 2) := by
    intro g hg
    obtain ⟨⟨g1, g9⟩, _⟩ := editErr_zero.1 hg
    unfold zeroC
    by_cases h2 : g.kind ≤ 2
    · rw [hT g (by omega), hI g (by omega), hP g (by omega), decide_eq_true h2]; simp [eqS_self]
    · rw [decide_eq_false h2]
      by_cases h4 : g.kind ≤ 4
      · rw [hU g (by omega), use_text hg (by omega)]; rfl
      · have := concI_pos hg (by omega)
        rw [show (concI g == 0) = false from beq_eq_false_iff_ne.2 (by omega), Bool.false_and, Bool.and_false]
  unfold rindB indepB
  split
  · rw [hZ e he, hZ f hf]
    by_cases a2 : e.kind ≤ 2
    · rw [if_pos (.inl a2), decide_eq_true a2]; rfl
    by_cases b2 : f.kind ≤ 2
    · rw [if_pos (.inr b2), decide_eq_true b2]; simp
    rw [if_neg (fun h => h.elim a2 b2), decide_eq_false a2, decide_eq_false b2, Bool.false_or, Bool.false_or]
    unfold sameC
    by_cases a4 : e.kind ≤ 4
    · by_cases b4 : f.kind ≤ 4
      · rw [if_pos ⟨a4, b4⟩, hU e (by omega), hU f (by omega), hI e a4, hI f b4, hP e (by omega), hP f (by omega)]
        cases eqS e.text f.text <;> rfl
      · have := concI_pos hf (by omega)
        rw [if_neg (fun h => b4 h.2), if_pos (.inl a4), hI e a4, show ((0 : Int) == concI f) = false from beq_eq_false_iff_ne.2 (by omega), show ((0 : Int) != concI f) = true from bne_iff_ne.2 (by omega)]
        simp
    · by_cases b4 : f.kind ≤ 4
      · have := concI_pos he (by omega)
        rw [if_neg (fun h => a4 h.1), if_pos (.inr b4), hI f b4, show (concI e == (0 : Int)) = false from beq_eq_false_iff_ne.2 (by omega), show (concI e != (0 : Int)) = true from bne_iff_ne.2 (by omega)]
        simp
      · rw [if_neg (fun h => a4 h.1), if_neg (fun h => h.elim a4 b4), hT e (by omega), hT f (by omega), eqS_self]
        by_cases hi : concI e = concI f
        · rw [if_neg (fun h => h hi), hi, beq_self_eq_true]
          by_cases a6 : e.kind ≤ 6
          · rw [hP e a6]
            by_cases b6 : f.kind ≤ 6
            · rw [hP f b6, decide_eq_false (by omega)]; simp
            · rw [hQ f b6, decide_eq_false (by omega), show ((0 : Int) == f.kind) = false from beq_eq_false_iff_ne.2 (by omega)]; simp
          · rw [hQ e a6, decide_eq_true (by omega)]
            by_cases b6 : f.kind ≤ 6
            · rw [hP f b6, decide_eq_false (by omega), show (e.kind == (0 : Int)) = false from beq_eq_false_iff_ne.2 (by omega)]; simp
            · rw [hQ f b6, decide_eq_true (by omega), show (e.kind != 0) = true from bne_iff_ne.2 (by omega), show (f.kind != 0) = true from bne_iff_ne.2 (by omega)]
              by_cases hk : e.kind = f.kind
              · rw [hk]; simp
              · rw [show (e.kind == f.kind) = false from beq_eq_false_iff_ne.2 hk, show (e.kind != f.kind) = true from bne_iff_ne.2 hk]; simp
        · rw [if_pos hi, show (concI e == concI f) = false from beq_eq_false_iff_ne.2 hi, show (concI e != concI f) = true from bne_iff_ne.2 hi]; simp
  · rfl
/-! The walks. -/
set_option maxRecDepth 100000 in
set_option maxHeartbeats 4000000 in
theorem r35id_any (e : OEdit) (ao : Option Addr) (co : Nat) (af : Option Addr) (cf : Nat) (w : World) (he : EditIn w e ao co af cf) (hs : FitE e) (hk : 5 ≤ e.kind) :
    Calls Tryz.prog 41 #[editV e ao co af cf] w fun r w' => r = .returned (.int .i64 (concI e)) ∧ Below w.heap.size w w' := by
  have HI := Lib.hid he
  obtain ⟨hlo, hhi, hol, hfl⟩ := hs
  have hA := qalloc w (.cells #[.int .i64 e.kind, .string e.pack, .string e.text, .slice ao e.old.length co, .slice af e.fresh.length cf] 24)
  unfold editV
  clear he
  by_cases h5 : e.kind = 5
  · have hn : 0 < e.fresh.length := by rw [hfl]; unfold newsN; rw [if_pos (by omega)]; omega
    have h0 : e.old.length = 0 := by rw [hol]; unfold oldsN; rw [if_neg (by omega)]
    have hp : concI e = (dAt e.fresh 0).id := by unfold concI; rw [if_neg (by omega), if_pos h5]
    obtain ⟨d, hdi⟩ : ∃ d, e.fresh[0]? = some d := ⟨_, List.getElem?_eq_getElem hn⟩
    obtain ⟨b, o, an, cn, sa, cs, rfl, hbl, hcell, -⟩ := decls_elem HI.out.fresh hdi
    have x0 := hcell 0 _ rfl
    have x0 : w.cell? ⟨b, o, none⟩ = some (.int .i64 d.id) := by simpa using x0
    rw [dAt_of hdi] at hp
    have hni : (0 : Int) < (e.fresh.length : Int) := by omega
    have q1 : ¬ 0 < e.old.length := by omega
    have HP := Lib.hid hp
    clear hcell hdi hp h0 h5 hlo hhi hol hfl hk
    go_enter Tryz.func41, Tryz.ntmps41
    go_wp2
    go_ret
    exact ⟨ret_int HP.out.symm, hA⟩
  · have hn : 0 < e.old.length := by rw [hol]; unfold oldsN; rw [if_pos (by omega)]; omega
    have hp : concI e = (dAt e.old 0).id := by unfold concI; rw [if_neg (by omega), if_neg h5]
    obtain ⟨d, hdi⟩ : ∃ d, e.old[0]? = some d := ⟨_, List.getElem?_eq_getElem hn⟩
    obtain ⟨b, o, an, cn, sa, cs, rfl, hbl, hcell, -⟩ := decls_elem HI.out.old hdi
    have x0 := hcell 0 _ rfl
    have x0 : w.cell? ⟨b, o, none⟩ = some (.int .i64 d.id) := by simpa using x0
    rw [dAt_of hdi] at hp
    have hni : (0 : Int) < (e.old.length : Int) := by omega
    have q1 : decide ((0 : Int) < (e.old.length : Int)) = true := decide_eq_true (by omega)
    have HP := Lib.hid hp
    clear hcell hdi hp h5 hlo hhi hol hfl hk
    go_enter Tryz.func41, Tryz.ntmps41
    go_wp2
    go_ret
    exact ⟨ret_int HP.out.symm, hA⟩
set_option maxRecDepth 100000 in
set_option maxHeartbeats 8000000 in
theorem rIndep_any (e f : OEdit) (ao : Option Addr) (co : Nat) (af : Option Addr) (cf : Nat) (bo : Option Addr) (do' : Nat) (bf : Option Addr) (df : Nat) (w : World) (he : EditIn w e ao co af cf) (hf : EditIn w f bo do' bf df) (hse : SmE e) (hsf : SmE f) :
    Calls Tryz.prog 28 #[editV e ao co af cf, editV f bo do' bf df] w fun r w' => r = .returned (.bool (swapB e f)) ∧ Below w.heap.size w w' := by
  have HC1 := Lib.hid (fun W (h : Below w.heap.size w W) => r34Check_any e ao co af cf W (he.below h) hse)
  have HC2 := Lib.hid (fun W (h : Below w.heap.size w W) => r34Check_any f bo do' bf df W (hf.below h) hsf)
  have HD1 := Lib.hid (fun (h1 : FitE e) (h2 : 5 ≤ e.kind) W (h : Below w.heap.size w W) => r35id_any e ao co af cf W (he.below h) h1 h2)
  have HD2 := Lib.hid (fun (h1 : FitE f) (h2 : 5 ≤ f.kind) W (h : Below w.heap.size w W) => r35id_any f bo do' bf df W (hf.below h) h1 h2)
  have HS : Hid (swapB e f = ((editErr e == 0) && ((editErr f == 0) && indepB e f))) := rfl
  have HR := Lib.hid (rind_eq (e := e) (f := f))
  have HF1 := Lib.hid (fit_of (e := e))
  have HF2 := Lib.hid (fit_of (e := f))
  have HRB : Hid (rindB e f = if e.pack.toList == f.pack.toList then (if e.kind ≤ 2 ∨ f.kind ≤ 2 then false else if e.kind ≤ 4 ∧ f.kind ≤ 4 then !(e.text.toList == f.text.toList) else if e.kind ≤ 4 ∨ f.kind ≤ 4 then true else if concI e ≠ concI f then true else decide (7 ≤ e.kind) && decide (7 ≤ f.kind) && (e.kind != f.kind)) else true) := rfl
  obtain ⟨g1, g2, g3⟩ := two_boxes w 24 #[.int .i64 e.kind, .string e.pack, .string e.text, .slice ao e.old.length co, .slice af e.fresh.length cf] #[.int .i64 f.kind, .string f.pack, .string f.text, .slice bo f.old.length do', .slice bf f.fresh.length df]
  have G1 := Lib.hid g1
  have G2 := Lib.hid g2
  have HA := Lib.hid g3
  clear g1 g2 g3 he hf hse hsf
  unfold editV at *
  generalize swapB e f = T at *
  go_enter Tryz.func28, Tryz.ntmps28
  go_upto_region 1 with (fail)
  generalize (w.alloc (.cells #[.int .i64 e.kind, .string e.pack, .string e.text, .slice ao e.old.length co, .slice af e.fresh.length cf] 24)).alloc (.cells #[.int .i64 f.kind, .string f.pack, .string f.text, .slice bo f.old.length do', .slice bf f.fresh.length df] 24) = w0 at *
  generalize hb2 : w.heap.size + 1 = B2 at *
  generalize hb1 : w.heap.size = B1 at *
  have HB1 := Lib.hid hb1
  clear hb2 hb1
  have e0 := G1.out.cell (i := 0) (v := .int .i64 e.kind) rfl
  have e1 := G1.out.cell (i := 1) (v := .string e.pack) rfl
  have e2 := G1.out.cell (i := 2) (v := .string e.text) rfl
  have e3 := G1.out.cell (i := 3) (v := .slice ao e.old.length co) rfl
  have e4 := G1.out.cell (i := 4) (v := .slice af e.fresh.length cf) rfl
  have el := G1.out.lt
  go_wp2_with (fail)
  refine (HC1.out _ HA.out).mono ?_
  rintro r w1 ⟨rfl, hb1⟩
  rw [← HB1.out] at HA
  have HW1 := Lib.hid (qtrans HA.out hb1)
  have HZ1 := Lib.hid hb1
  clear hb1
  clear e0 e1 e2 e3 e4 el
  by_cases hk1 : editErr e = 0
  rotate_left
  · have q1 : (editErr e != 0) = true := by simp [hk1]
    have HSF : Hid (T = false) := by show _ = _; rw [HS.out, show (editErr e == 0) = false from beq_eq_false_iff_ne.2 hk1]; rfl
    clear hk1 HS HF1 HF2 HR
    generalize editErr e = k1 at *
    go_wp2
    go_ret
    exact ⟨ret_bool HSF.out.symm, HW1.out⟩
  have q1 : (editErr e != 0) = false := by rw [hk1]; rfl
  have HK1 := Lib.hid hk1
  clear hk1
  have f0 := (G2.out.below HZ1.out).cell (i := 0) (v := .int .i64 f.kind) rfl
  have f1 := (G2.out.below HZ1.out).cell (i := 1) (v := .string f.pack) rfl
  have f2 := (G2.out.below HZ1.out).cell (i := 2) (v := .string f.text) rfl
  have f3 := (G2.out.below HZ1.out).cell (i := 3) (v := .slice bo f.old.length do') rfl
  have f4 := (G2.out.below HZ1.out).cell (i := 4) (v := .slice bf f.fresh.length df) rfl
  have fl := (G2.out.below HZ1.out).lt
  go_wp2_with (fail)
  refine (HC2.out _ (by have q := HW1.out; rw [← HB1.out]; exact q)).mono ?_
  rintro r w2 ⟨rfl, hb2⟩
  have HW2 := Lib.hid (qtrans HW1.out hb2)
  have HZ2 := Lib.hid (qtrans HZ1.out hb2)
  clear hb2
  clear f0 f1 f2 f3 f4 fl
  by_cases hk2 : editErr f = 0
  rotate_left
  · have q2 : (editErr f != 0) = true := by simp [hk2]
    have HSF : Hid (T = false) := by show _ = _; rw [HS.out, show (editErr f == 0) = false from beq_eq_false_iff_ne.2 hk2, Bool.false_and, Bool.and_false]
    clear hk2 HS HF1 HF2 HR
    generalize editErr f = k2 at *
    go_wp2
    go_ret
    exact ⟨ret_bool HSF.out.symm, HW2.out⟩
  have q2 : (editErr f != 0) = false := by rw [hk2]; rfl
  have HT : Hid (T = rindB e f) := by show _ = _; rw [HS.out, HK1.out, hk2, HR.out HK1.out hk2]; rfl
  have hfe := HF1.out HK1.out
  have hff := HF2.out hk2
  have HFE := Lib.hid hfe
  have HFF := Lib.hid hff
  rw [HRB.out] at HT
  clear hk2 HK1 HR HRB HF1 HF2 HS hfe hff HC1 HC2
  have e0 := (G1.out.below HZ2.out).cell (i := 0) (v := .int .i64 e.kind) rfl
  have e1 := (G1.out.below HZ2.out).cell (i := 1) (v := .string e.pack) rfl
  have e2 := (G1.out.below HZ2.out).cell (i := 2) (v := .string e.text) rfl
  have e3 := (G1.out.below HZ2.out).cell (i := 3) (v := .slice ao e.old.length co) rfl
  have e4 := (G1.out.below HZ2.out).cell (i := 4) (v := .slice af e.fresh.length cf) rfl
  have el := (G1.out.below HZ2.out).lt
  have f0 := (G2.out.below HZ2.out).cell (i := 0) (v := .int .i64 f.kind) rfl
  have f1 := (G2.out.below HZ2.out).cell (i := 1) (v := .string f.pack) rfl
  have f2 := (G2.out.below HZ2.out).cell (i := 2) (v := .string f.text) rfl
  have f3 := (G2.out.below HZ2.out).cell (i := 3) (v := .slice bo f.old.length do') rfl
  have f4 := (G2.out.below HZ2.out).cell (i := 4) (v := .slice bf f.fresh.length df) rfl
  have fl := (G2.out.below HZ2.out).lt
  cases hp : e.pack.toList == f.pack.toList with
  | false =>
    rw [hp, if_neg (by simp)] at HT
    go_wp2
    go_ret
    exact ⟨ret_bool HT.out.symm, HW2.out⟩
  | true =>
  rw [hp, if_pos rfl] at HT
  by_cases a2 : e.kind ≤ 2
  · have d1 : decide (e.kind ≤ 2) = true := decide_eq_true a2
    rw [if_pos (.inl a2)] at HT
    clear a2
    go_wp2
    go_ret
    exact ⟨ret_bool HT.out.symm, HW2.out⟩
  have d1 : decide (e.kind ≤ 2) = false := decide_eq_false a2
  by_cases b2 : f.kind ≤ 2
  · have d2 : decide (f.kind ≤ 2) = true := decide_eq_true b2
    rw [if_pos (.inr b2)] at HT
    clear a2 b2
    go_wp2
    go_ret
    exact ⟨ret_bool HT.out.symm, HW2.out⟩
  have d2 : decide (f.kind ≤ 2) = false := decide_eq_false b2
  rw [if_neg (fun h => h.elim a2 b2)] at HT
  clear a2 b2
  by_cases a4 : e.kind ≤ 4
  · have d3 : decide (e.kind ≤ 4) = true := decide_eq_true a4
    by_cases b4 : f.kind ≤ 4
    · have d4 : decide (f.kind ≤ 4) = true := decide_eq_true b4
      rw [if_pos ⟨a4, b4⟩] at HT
      clear a4 b4
      obtain ⟨tt, ht⟩ : ∃ tt, (e.text.toList == f.text.toList) = tt := ⟨_, rfl⟩
      rw [ht] at HT
      go_wp2
      go_ret
      exact ⟨ret_bool HT.out.symm, HW2.out⟩
    · have d4 : decide (f.kind ≤ 4) = false := decide_eq_false b4
      rw [if_neg (fun h => b4 h.2), if_pos (.inl a4)] at HT
      clear a4 b4
      go_wp2
      go_ret
      exact ⟨ret_bool HT.out.symm, HW2.out⟩
  have d3 : decide (e.kind ≤ 4) = false := decide_eq_false a4
  by_cases b4 : f.kind ≤ 4
  · have d4 : decide (f.kind ≤ 4) = true := decide_eq_true b4
    rw [if_neg (fun h => a4 h.1), if_pos (.inr b4)] at HT
    clear a4 b4
    go_wp2
    go_ret
    exact ⟨ret_bool HT.out.symm, HW2.out⟩
  have d4 : decide (f.kind ≤ 4) = false := decide_eq_false b4
  rw [if_neg (fun h => a4 h.1), if_neg (fun h => h.elim a4 b4)] at HT
  have HI1 := Lib.hid (fun W h => HD1.out HFE.out (by omega) W h)
  have HI2 := Lib.hid (fun W h => HD2.out HFF.out (by omega) W h)
  have hwk := HW2.out
  clear a4 b4 HD1 HD2 HFE HFF
  generalize concI e = ie at *
  generalize concI f = if' at *
  go_upto_region 11 with (fail)
  have SW : Hid (∀ W : World, Below w2.heap.size w2 W → (W.cell? ⟨B1, 0, none⟩ = some (.int .i64 e.kind) ∧ W.cell? ⟨B1, 1, none⟩ = some (.string e.pack) ∧ W.cell? ⟨B1, 2, none⟩ = some (.string e.text) ∧ W.cell? ⟨B1, 3, none⟩ = some (.slice ao e.old.length co) ∧ W.cell? ⟨B1, 4, none⟩ = some (.slice af e.fresh.length cf) ∧ W.cell? ⟨B2, 0, none⟩ = some (.int .i64 f.kind) ∧ W.cell? ⟨B2, 1, none⟩ = some (.string f.pack) ∧ W.cell? ⟨B2, 2, none⟩ = some (.string f.text) ∧ W.cell? ⟨B2, 3, none⟩ = some (.slice bo f.old.length do') ∧ W.cell? ⟨B2, 4, none⟩ = some (.slice bf f.fresh.length df) ∧ B1 < W.heap.size ∧ B2 < W.heap.size)) := Lib.hid (fun W hW => ⟨(hW.cell (p := ⟨B1, _, none⟩) el).trans e0, (hW.cell (p := ⟨B1, _, none⟩) el).trans e1, (hW.cell (p := ⟨B1, _, none⟩) el).trans e2, (hW.cell (p := ⟨B1, _, none⟩) el).trans e3, (hW.cell (p := ⟨B1, _, none⟩) el).trans e4, (hW.cell (p := ⟨B2, _, none⟩) fl).trans f0, (hW.cell (p := ⟨B2, _, none⟩) fl).trans f1, (hW.cell (p := ⟨B2, _, none⟩) fl).trans f2, (hW.cell (p := ⟨B2, _, none⟩) fl).trans f3, (hW.cell (p := ⟨B2, _, none⟩) fl).trans f4, Nat.lt_of_lt_of_le el hW.size, Nat.lt_of_lt_of_le fl hW.size⟩)
  have hdr : Below w2.heap.size w2 w2.drew := (Mod.refl [] w2).drew.below
  obtain ⟨ri, hri⟩ : ∃ ri, (ie != if') = ri := ⟨_, rfl⟩
  go_cut [51] from 47 to 66 (fun v wx => v = .bool ri ∧ Below w2.heap.size w2 wx)
  case first =>
    clear e0 e1 e2 e3 e4 el
    clear f0 f1 f2 f3 f4 fl
    refine wp_region_noPanic (region_plan (fun W : World => W.cell? ⟨B1, 0, none⟩ = some (.int .i64 e.kind) ∧ W.cell? ⟨B1, 1, none⟩ = some (.string e.pack) ∧ W.cell? ⟨B1, 2, none⟩ = some (.string e.text) ∧ W.cell? ⟨B1, 3, none⟩ = some (.slice ao e.old.length co) ∧ W.cell? ⟨B1, 4, none⟩ = some (.slice af e.fresh.length cf) ∧ W.cell? ⟨B2, 0, none⟩ = some (.int .i64 f.kind) ∧ W.cell? ⟨B2, 1, none⟩ = some (.string f.pack) ∧ W.cell? ⟨B2, 2, none⟩ = some (.string f.text) ∧ W.cell? ⟨B2, 3, none⟩ = some (.slice bo f.old.length do') ∧ W.cell? ⟨B2, 4, none⟩ = some (.slice bf f.fresh.length df) ∧ B1 < W.heap.size ∧ B2 < W.heap.size) (.take 0 (.take 2 (.one 1 (.one 3 (.one 4 .done))))) mixedK (by kernel_rfl) (fun _ _ _ _ _ h => h) (SW.out _ hdr) ?_)
    iterate 2 (refine plan_take (v := ?_) rfl (by rfl) ?_ ?_; rotate_left; (focus (intro wq hSw; (try dsimp only at hSw); go_simp; (try rw [if_neg (by first | omega | (simp; omega))]); (try with_reducible rfl))); (try simp only [List.getElem_toArray, List.getElem_cons_succ, List.getElem_cons_zero, Act.put, List.setIfInBounds_toArray, List.set_cons_zero, List.set_cons_succ]))
    generalize w2.drew = wd at *
    (refine plan_one rfl (by rfl) (fun K hK => ?_); go_simp)
    refine (HI1.out _ (by rw [← HB1.out]; exact qtrans HW2.out hdr)).mono ?_
    rintro r w3 ⟨rfl, hb3⟩
    (try go_simp)
    have hb4 := qtrans hdr hb3
    refine hK.out _ _ (SW.out _ hb4) ?_; clear hK K; (try simp only [List.getElem_toArray, List.getElem_cons_succ, List.getElem_cons_zero, Act.put, List.setIfInBounds_toArray, List.set_cons_zero, List.set_cons_succ])
    (refine plan_one rfl (by rfl) (fun K hK => ?_); go_simp)
    refine (HI2.out _ (by rw [← HB1.out]; exact qtrans HW2.out hb4)).mono ?_
    rintro r w5 ⟨rfl, hb5⟩
    (try go_simp)
    have hb6 := qtrans hb4 hb5
    refine hK.out _ _ (SW.out _ hb6) ?_; clear hK K; (try simp only [List.getElem_toArray, List.getElem_cons_succ, List.getElem_cons_zero, Act.put, List.setIfInBounds_toArray, List.set_cons_zero, List.set_cons_succ])
    (refine plan_one rfl (by rfl) (fun K hK => ?_); go_simp)
    refine hK.out _ _ (SW.out _ hb6) ?_; clear hK K; (try simp only [List.getElem_toArray, List.getElem_cons_succ, List.getElem_cons_zero, Act.put, List.setIfInBounds_toArray, List.set_cons_zero, List.set_cons_succ])
    refine plan_done ?_
    refine NoPanic.normal ?_
    (try go_wp2)
    go_meet
    case rel => exact ⟨rfl, hb6⟩
  case rest =>
  obtain ⟨rfl, hb4⟩ := hcut
  generalize wc = w4 at *
  have HW4 := Lib.hid (qtrans HW2.out hb4)
  have HZ4 := Lib.hid (qtrans HZ2.out hb4)
  clear e0 e1 e2 e3 e4 el
  clear f0 f1 f2 f3 f4 fl
  clear SW hdr hb4 HI1 HI2
  have e0 := (G1.out.below HZ4.out).cell (i := 0) (v := .int .i64 e.kind) rfl
  have e1 := (G1.out.below HZ4.out).cell (i := 1) (v := .string e.pack) rfl
  have e2 := (G1.out.below HZ4.out).cell (i := 2) (v := .string e.text) rfl
  have e3 := (G1.out.below HZ4.out).cell (i := 3) (v := .slice ao e.old.length co) rfl
  have e4 := (G1.out.below HZ4.out).cell (i := 4) (v := .slice af e.fresh.length cf) rfl
  have el := (G1.out.below HZ4.out).lt
  have f0 := (G2.out.below HZ4.out).cell (i := 0) (v := .int .i64 f.kind) rfl
  have f1 := (G2.out.below HZ4.out).cell (i := 1) (v := .string f.pack) rfl
  have f2 := (G2.out.below HZ4.out).cell (i := 2) (v := .string f.text) rfl
  have f3 := (G2.out.below HZ4.out).cell (i := 3) (v := .slice bo f.old.length do') rfl
  have f4 := (G2.out.below HZ4.out).cell (i := 4) (v := .slice bf f.fresh.length df) rfl
  have fl := (G2.out.below HZ4.out).lt
  cases ri with
  | true =>
    rw [if_pos (bne_iff_ne.1 hri)] at HT
    clear hri
    go_wp2
    go_ret
    exact ⟨ret_bool HT.out.symm, HW4.out⟩
  | false =>
    rw [if_neg (fun h => by rw [bne_iff_ne.2 h] at hri; cases hri)] at HT
    clear hri
    obtain ⟨m1, m2, m3, n1, n2, n3⟩ : ∃ m1 m2 m3, decide (7 ≤ e.kind) = m1 ∧ decide (7 ≤ f.kind) = m2 ∧ (e.kind != f.kind) = m3 := ⟨_, _, _, rfl, rfl, rfl⟩
    rw [n1, n2, n3] at HT
    cases m1 with
    | false =>
      go_wp2
      go_ret
      exact ⟨ret_bool (by rw [HT.out]; rfl), HW4.out⟩
    | true =>
      cases m2 with
      | false =>
        go_wp2
        go_ret
        exact ⟨ret_bool (by rw [HT.out]; rfl), HW4.out⟩
      | true =>
        go_wp2
        go_ret
        exact ⟨ret_bool (by rw [HT.out]; rfl), HW4.out⟩
end Go.Proofs.YtlcpdhionefmbaaGreatDoor

namespace Go.Proofs.YtlcpdhionefmbaaGreatDoor
open Go.RowKit Go.Shelf
attribute [local go_sem] Oper.semAt_some

set_option maxRecDepth 100000 in
set_option maxHeartbeats 8000000 in
theorem rSwap_any (e f : OEdit) (ao : Option Addr) (co : Nat) (af : Option Addr) (cf : Nat) (bo : Option Addr) (do' : Nat) (bf : Option Addr) (df : Nat) (w : World) (he : EditIn w e ao co af cf) (hf : EditIn w f bo do' bf df) (hse : SmE e) (hsf : SmE f) :
    Calls Tryz.prog 10 #[editV e ao co af cf, editV f bo do' bf df] w fun r w' => r = .returned (swapV e f ao co af cf bo do' bf df) ∧ Below w.heap.size w w' := by
  have HC3 := Lib.hid (fun W (h : Below w.heap.size w W) => rIndep_any e f ao co af cf bo do' bf df W (he.below h) (hf.below h) hse hsf)
  have HP : Hid (swapV e f ao co af cf bo do' bf df = .tuple #[if swapB e f then editV f bo do' bf df else editV noEdit none 0 none 0, if swapB e f then editV e ao co af cf else editV noEdit none 0 none 0, .bool (swapB e f)]) := rfl
  have HZ : Hid (editV noEdit none 0 none 0 = .agg #[.int .i64 0, .string ⟨#[]⟩, .string ⟨#[]⟩, .slice none 0 0, .slice none 0 0]) := rfl
  clear he hf hse hsf
  have g1 : CBox ((((w.alloc (.cells #[.int .i64 e.kind, .string e.pack, .string e.text, .slice ao e.old.length co, .slice af e.fresh.length cf] 24)).alloc (.cells #[.int .i64 f.kind, .string f.pack, .string f.text, .slice bo f.old.length do', .slice bf f.fresh.length df] 24)).alloc (.cells #[.int .i64 0, .string ⟨#[]⟩, .string ⟨#[]⟩, .slice none 0 0, .slice none 0 0] 24)).alloc (.cells #[.int .i64 0, .string ⟨#[]⟩, .string ⟨#[]⟩, .slice none 0 0, .slice none 0 0] 24)) w.heap.size 24 #[.int .i64 e.kind, .string e.pack, .string e.text, .slice ao e.old.length co, .slice af e.fresh.length cf] := (((CBox.new w _ _).alloc _).alloc _).alloc _
  have g2 : CBox ((((w.alloc (.cells #[.int .i64 e.kind, .string e.pack, .string e.text, .slice ao e.old.length co, .slice af e.fresh.length cf] 24)).alloc (.cells #[.int .i64 f.kind, .string f.pack, .string f.text, .slice bo f.old.length do', .slice bf f.fresh.length df] 24)).alloc (.cells #[.int .i64 0, .string ⟨#[]⟩, .string ⟨#[]⟩, .slice none 0 0, .slice none 0 0] 24)).alloc (.cells #[.int .i64 0, .string ⟨#[]⟩, .string ⟨#[]⟩, .slice none 0 0, .slice none 0 0] 24)) (w.heap.size + 1) 24 #[.int .i64 f.kind, .string f.pack, .string f.text, .slice bo f.old.length do', .slice bf f.fresh.length df] := ((two_boxes w _ _ _).2.1.alloc _).alloc _
  have g3 : CBox ((((w.alloc (.cells #[.int .i64 e.kind, .string e.pack, .string e.text, .slice ao e.old.length co, .slice af e.fresh.length cf] 24)).alloc (.cells #[.int .i64 f.kind, .string f.pack, .string f.text, .slice bo f.old.length do', .slice bf f.fresh.length df] 24)).alloc (.cells #[.int .i64 0, .string ⟨#[]⟩, .string ⟨#[]⟩, .slice none 0 0, .slice none 0 0] 24)).alloc (.cells #[.int .i64 0, .string ⟨#[]⟩, .string ⟨#[]⟩, .slice none 0 0, .slice none 0 0] 24)) (w.heap.size + 1 + 1) 24 #[.int .i64 0, .string ⟨#[]⟩, .string ⟨#[]⟩, .slice none 0 0, .slice none 0 0] := by
    have q := (two_boxes ((w.alloc (.cells #[.int .i64 e.kind, .string e.pack, .string e.text, .slice ao e.old.length co, .slice af e.fresh.length cf] 24)).alloc (.cells #[.int .i64 f.kind, .string f.pack, .string f.text, .slice bo f.old.length do', .slice bf f.fresh.length df] 24)) 24 #[.int .i64 0, .string ⟨#[]⟩, .string ⟨#[]⟩, .slice none 0 0, .slice none 0 0] #[.int .i64 0, .string ⟨#[]⟩, .string ⟨#[]⟩, .slice none 0 0, .slice none 0 0]).1
    simpa only [World.size_alloc] using q
  have g4 : CBox ((((w.alloc (.cells #[.int .i64 e.kind, .string e.pack, .string e.text, .slice ao e.old.length co, .slice af e.fresh.length cf] 24)).alloc (.cells #[.int .i64 f.kind, .string f.pack, .string f.text, .slice bo f.old.length do', .slice bf f.fresh.length df] 24)).alloc (.cells #[.int .i64 0, .string ⟨#[]⟩, .string ⟨#[]⟩, .slice none 0 0, .slice none 0 0] 24)).alloc (.cells #[.int .i64 0, .string ⟨#[]⟩, .string ⟨#[]⟩, .slice none 0 0, .slice none 0 0] 24)) (w.heap.size + 1 + 1 + 1) 24 #[.int .i64 0, .string ⟨#[]⟩, .string ⟨#[]⟩, .slice none 0 0, .slice none 0 0] := by
    have q := (two_boxes ((w.alloc (.cells #[.int .i64 e.kind, .string e.pack, .string e.text, .slice ao e.old.length co, .slice af e.fresh.length cf] 24)).alloc (.cells #[.int .i64 f.kind, .string f.pack, .string f.text, .slice bo f.old.length do', .slice bf f.fresh.length df] 24)) 24 #[.int .i64 0, .string ⟨#[]⟩, .string ⟨#[]⟩, .slice none 0 0, .slice none 0 0] #[.int .i64 0, .string ⟨#[]⟩, .string ⟨#[]⟩, .slice none 0 0, .slice none 0 0]).2.1
    simpa only [World.size_alloc] using q
  have hA : Below w.heap.size w ((((w.alloc (.cells #[.int .i64 e.kind, .string e.pack, .string e.text, .slice ao e.old.length co, .slice af e.fresh.length cf] 24)).alloc (.cells #[.int .i64 f.kind, .string f.pack, .string f.text, .slice bo f.old.length do', .slice bf f.fresh.length df] 24)).alloc (.cells #[.int .i64 0, .string ⟨#[]⟩, .string ⟨#[]⟩, .slice none 0 0, .slice none 0 0] 24)).alloc (.cells #[.int .i64 0, .string ⟨#[]⟩, .string ⟨#[]⟩, .slice none 0 0, .slice none 0 0] 24)) := qtrans (qtrans (qtrans (qalloc _ _) (qalloc _ _)) (qalloc _ _)) (qalloc _ _)
  unfold editV at *
  generalize swapV e f ao co af cf bo do' bf df = T at *
  generalize swapB e f = sb at *
  go_enter Tryz.func10, Tryz.ntmps10
  go_upto_region 1 with (fail)
  generalize ((((w.alloc (.cells #[.int .i64 e.kind, .string e.pack, .string e.text, .slice ao e.old.length co, .slice af e.fresh.length cf] 24)).alloc (.cells #[.int .i64 f.kind, .string f.pack, .string f.text, .slice bo f.old.length do', .slice bf f.fresh.length df] 24)).alloc (.cells #[.int .i64 0, .string ⟨#[]⟩, .string ⟨#[]⟩, .slice none 0 0, .slice none 0 0] 24)).alloc (.cells #[.int .i64 0, .string ⟨#[]⟩, .string ⟨#[]⟩, .slice none 0 0, .slice none 0 0] 24)) = W0 at *
  have G1 := Lib.hid g1
  have G2 := Lib.hid g2
  have G3 := Lib.hid g3
  have G4 := Lib.hid g4
  clear g1 g2 g3 g4
  go_cut [10] from 7 to 19 (fun v wx => v = .bool (!sb) ∧ Below W0.heap.size W0 wx)
  case first =>
    have e0 := G1.out.cell (i := 0) (v := .int .i64 e.kind) rfl
    have e1 := G1.out.cell (i := 1) (v := .string e.pack) rfl
    have e2 := G1.out.cell (i := 2) (v := .string e.text) rfl
    have e3 := G1.out.cell (i := 3) (v := .slice ao e.old.length co) rfl
    have e4 := G1.out.cell (i := 4) (v := .slice af e.fresh.length cf) rfl
    have el := G1.out.lt
    have f0 := G2.out.cell (i := 0) (v := .int .i64 f.kind) rfl
    have f1 := G2.out.cell (i := 1) (v := .string f.pack) rfl
    have f2 := G2.out.cell (i := 2) (v := .string f.text) rfl
    have f3 := G2.out.cell (i := 3) (v := .slice bo f.old.length do') rfl
    have f4 := G2.out.cell (i := 4) (v := .slice bf f.fresh.length df) rfl
    have fl := G2.out.lt
    have HI := Lib.hid (HC3.out _ hA)
    clear HC3
    go_wp2_with (fail)
    refine HI.out.mono ?_
    rintro r w3 ⟨rfl, hb3⟩
    go_wp2
    go_meet
    case rel => exact ⟨rfl, hb3⟩
  case rest =>
  obtain ⟨rfl, hb⟩ := hcut
  generalize wc = w1 at *
  have hbw := qtrans hA hb
  have B3 := G3.out.below hb
  have B4 := G4.out.below hb
  have B1 := G1.out.below hb
  have B2 := G2.out.below hb
  have e0 := B1.cell (i := 0) (v := .int .i64 e.kind) rfl
  have e1 := B1.cell (i := 1) (v := .string e.pack) rfl
  have e2 := B1.cell (i := 2) (v := .string e.text) rfl
  have e3 := B1.cell (i := 3) (v := .slice ao e.old.length co) rfl
  have e4 := B1.cell (i := 4) (v := .slice af e.fresh.length cf) rfl
  have el := B1.lt
  have f0 := B2.cell (i := 0) (v := .int .i64 f.kind) rfl
  have f1 := B2.cell (i := 1) (v := .string f.pack) rfl
  have f2 := B2.cell (i := 2) (v := .string f.text) rfl
  have f3 := B2.cell (i := 3) (v := .slice bo f.old.length do') rfl
  have f4 := B2.cell (i := 4) (v := .slice bf f.fresh.length df) rfl
  have fl := B2.lt
  have r0 := B3.cell (i := 0) (v := .int .i64 0) rfl
  have s0 := B4.cell (i := 0) (v := .int .i64 0) rfl
  have u0 := B3.frozen 0
  have v0 := B4.frozen 0
  have r1 := B3.cell (i := 1) (v := .string ⟨#[]⟩) rfl
  have s1 := B4.cell (i := 1) (v := .string ⟨#[]⟩) rfl
  have u1 := B3.frozen 1
  have v1 := B4.frozen 1
  have r2 := B3.cell (i := 2) (v := .string ⟨#[]⟩) rfl
  have s2 := B4.cell (i := 2) (v := .string ⟨#[]⟩) rfl
  have u2 := B3.frozen 2
  have v2 := B4.frozen 2
  have r3 := B3.cell (i := 3) (v := .slice none 0 0) rfl
  have s3 := B4.cell (i := 3) (v := .slice none 0 0) rfl
  have u3 := B3.frozen 3
  have v3 := B4.frozen 3
  have r4 := B3.cell (i := 4) (v := .slice none 0 0) rfl
  have s4 := B4.cell (i := 4) (v := .slice none 0 0) rfl
  have u4 := B3.frozen 4
  have v4 := B4.frozen 4
  have rl := B3.lt
  have sl := B4.lt




  have HB3 := Lib.hid B3
  have HB4 := Lib.hid B4
  clear B1 B2 B3 B4 G1 G2 G3 G4 HC3 hb hA
  have HBW := Lib.hid hbw
  have hsz := hbw.size
  clear hbw
  cases sb with
  | false =>
    go_wp2
    obtain ⟨c3, c4, hm⟩ := stored_two HB3.out HB4.out (by omega) (.int .i64 0) (.string ⟨#[]⟩) (.string ⟨#[]⟩) (.slice none 0 0) (.slice none 0 0) (.int .i64 0) (.string ⟨#[]⟩) (.string ⟨#[]⟩) (.slice none 0 0) (.slice none 0 0)
    have HM := Lib.hid hm
    have HC3 := Lib.hid c3
    have HC4 := Lib.hid c4
    clear hm c3 c4
    clear r0 s0 u0 v0 e0 f0 r1 s1 u1 v1 e1 f1 r2 s2 u2 v2 e2 f2 r3 s3 u3 v3 e3 f3 r4 s4 u4 v4 e4 f4 rl sl el fl
    generalize ((((((((((w1.setCell ⟨w.heap.size + 1 + 1, 0, none⟩ (.int .i64 0)).setCell ⟨w.heap.size + 1 + 1, 1, none⟩ (.string ⟨#[]⟩)).setCell ⟨w.heap.size + 1 + 1, 2, none⟩ (.string ⟨#[]⟩)).setCell ⟨w.heap.size + 1 + 1, 3, none⟩ (.slice none 0 0)).setCell ⟨w.heap.size + 1 + 1, 4, none⟩ (.slice none 0 0)).setCell ⟨w.heap.size + 1 + 1 + 1, 0, none⟩ (.int .i64 0)).setCell ⟨w.heap.size + 1 + 1 + 1, 1, none⟩ (.string ⟨#[]⟩)).setCell ⟨w.heap.size + 1 + 1 + 1, 2, none⟩ (.string ⟨#[]⟩)).setCell ⟨w.heap.size + 1 + 1 + 1, 3, none⟩ (.slice none 0 0)).setCell ⟨w.heap.size + 1 + 1 + 1, 4, none⟩ (.slice none 0 0)) = W2 at *
    have r0 := HC3.out.cell (i := 0) (v := .int .i64 0) rfl
    have s0 := HC4.out.cell (i := 0) (v := .int .i64 0) rfl
    have r1 := HC3.out.cell (i := 1) (v := .string ⟨#[]⟩) rfl
    have s1 := HC4.out.cell (i := 1) (v := .string ⟨#[]⟩) rfl
    have r2 := HC3.out.cell (i := 2) (v := .string ⟨#[]⟩) rfl
    have s2 := HC4.out.cell (i := 2) (v := .string ⟨#[]⟩) rfl
    have r3 := HC3.out.cell (i := 3) (v := .slice none 0 0) rfl
    have s3 := HC4.out.cell (i := 3) (v := .slice none 0 0) rfl
    have r4 := HC3.out.cell (i := 4) (v := .slice none 0 0) rfl
    have s4 := HC4.out.cell (i := 4) (v := .slice none 0 0) rfl
    have rl := HC3.out.lt
    have sl := HC4.out.lt
    (try simp only [Exit.inBlock, Exit.then])
    refine bodyPost_ret (by simp [results, Tryz.results10, go_sem, r0, r1, r2, r3, r4, s0, s1, s2, s3, s4]; try rfl) rfl ?_
    exact ⟨by rw [HP.out, HZ.out]; rfl, HBW.out.trans (HM.out.upto hsz (by intro k hk; simp at hk; omega))⟩
  | true =>
    go_upto_region 3 with (fail)
    go_region
    all_goals go_wp2
    all_goals clear r0 s0 u0 v0 e0 f0 r1 s1 u1 v1 e1 f1 r2 s2 u2 v2 e2 f2 r3 s3 u3 v3 e3 f3 r4 s4 u4 v4 e4 f4 rl sl el fl
    all_goals (
      obtain ⟨c3, c4, hm⟩ := stored_two HB3.out HB4.out (by omega) (.int .i64 f.kind) (.string f.pack) (.string f.text) (.slice bo f.old.length do') (.slice bf f.fresh.length df) (.int .i64 e.kind) (.string e.pack) (.string e.text) (.slice ao e.old.length co) (.slice af e.fresh.length cf)
      have c3 : CBox _ _ _ _ := c3.below (Mod.refl [] _).drew.below
      have c4 : CBox _ _ _ _ := c4.below (Mod.refl [] _).drew.below
      have hm := hm.drew
      have HM := Lib.hid hm
      have HC3 := Lib.hid c3
      have HC4 := Lib.hid c4
      clear hm c3 c4
      generalize ((((((((((w1.setCell ⟨w.heap.size + 1 + 1, 0, none⟩ (.int .i64 f.kind)).setCell ⟨w.heap.size + 1 + 1, 1, none⟩ (.string f.pack)).setCell ⟨w.heap.size + 1 + 1, 2, none⟩ (.string f.text)).setCell ⟨w.heap.size + 1 + 1, 3, none⟩ (.slice bo f.old.length do')).setCell ⟨w.heap.size + 1 + 1, 4, none⟩ (.slice bf f.fresh.length df)).setCell ⟨w.heap.size + 1 + 1 + 1, 0, none⟩ (.int .i64 e.kind)).setCell ⟨w.heap.size + 1 + 1 + 1, 1, none⟩ (.string e.pack)).setCell ⟨w.heap.size + 1 + 1 + 1, 2, none⟩ (.string e.text)).setCell ⟨w.heap.size + 1 + 1 + 1, 3, none⟩ (.slice ao e.old.length co)).setCell ⟨w.heap.size + 1 + 1 + 1, 4, none⟩ (.slice af e.fresh.length cf)).drew = W2 at *
      have r0 := HC3.out.cell (i := 0) (v := .int .i64 f.kind) rfl
      have s0 := HC4.out.cell (i := 0) (v := .int .i64 e.kind) rfl
      have r1 := HC3.out.cell (i := 1) (v := .string f.pack) rfl
      have s1 := HC4.out.cell (i := 1) (v := .string e.pack) rfl
      have r2 := HC3.out.cell (i := 2) (v := .string f.text) rfl
      have s2 := HC4.out.cell (i := 2) (v := .string e.text) rfl
      have r3 := HC3.out.cell (i := 3) (v := .slice bo f.old.length do') rfl
      have s3 := HC4.out.cell (i := 3) (v := .slice ao e.old.length co) rfl
      have r4 := HC3.out.cell (i := 4) (v := .slice bf f.fresh.length df) rfl
      have s4 := HC4.out.cell (i := 4) (v := .slice af e.fresh.length cf) rfl
      have rl := HC3.out.lt
      have sl := HC4.out.lt
      (try simp only [Exit.inBlock, Exit.then])
      refine bodyPost_ret (by simp [results, Tryz.results10, go_sem, r0, r1, r2, r3, r4, s0, s1, s2, s3, s4]; try rfl) rfl ?_
      exact ⟨by rw [HP.out]; rfl, HBW.out.trans (HM.out.upto hsz (by intro k hk; simp at hk; omega))⟩)
end Go.Proofs.YtlcpdhionefmbaaGreatDoor

namespace Go.Proofs.YtlcpdhionefmbaaGreatDoor
open Go.RowKit Go.Shelf
attribute [local go_sem] Oper.semAt_some

def sameEs : List OEdit → List OEdit → Bool
  | [], [] => true
  | a :: r, b :: s => sameE a b && sameEs r s
  | _, _ => false
theorem sameEs_iff : ∀ {l m : List OEdit}, sameEs l m = true ↔ l = m
  | [], [] => by simp [sameEs]
  | [], b :: s => by simp [sameEs]
  | a :: r, [] => by simp [sameEs]
  | a :: r, b :: s => by simp [sameEs, sameE_iff, sameEs_iff]
theorem sameEs_len {l m : List OEdit} (h : l.length ≠ m.length) : sameEs l m = false := by
  cases e : sameEs l m with
  | false => rfl
  | true => exact absurd (congrArg List.length (sameEs_iff.1 e)) h
theorem sameEs_at {l m : List OEdit} {i : Nat} {x y : OEdit} (hx : l[i]? = some x) (hy : m[i]? = some y) : sameEs (l.drop i) (m.drop i) = (sameE x y && sameEs (l.drop (i + 1)) (m.drop (i + 1))) := by
  obtain ⟨h1, e1⟩ := List.getElem?_eq_some_iff.1 hx
  obtain ⟨h2, e2⟩ := List.getElem?_eq_some_iff.1 hy
  rw [List.drop_eq_getElem_cons h1, List.drop_eq_getElem_cons h2, sameEs, e1, e2]
theorem sameEs_end {l m : List OEdit} {i : Nat} (hl : l.length ≤ i) (hm : m.length ≤ i) : sameEs (l.drop i) (m.drop i) = true := by
  rw [List.drop_eq_nil_of_le hl, List.drop_eq_nil_of_le hm, sameEs]
set_option maxRecDepth 100000 in
set_option maxHeartbeats 8000000 in
theorem r34SameAll_any (l m : List OEdit) (a b : Option Addr) (c d : Nat) (w : World) (hl : Reads w [] (editsT l) (.slice a l.length c)) (hm : Reads w [] (editsT m) (.slice b m.length d)) (hs : ∀ x ∈ l, SmE x) (hn : l.length ≤ 1000000) :
    Calls Tryz.prog 14 #[.slice a l.length c, .slice b m.length d] w fun e w' => e = .returned (.bool (sameEs l m)) ∧ Below w.heap.size w w' := by
  have HL := Lib.hid hl
  have HM := Lib.hid hm
  have HS := Lib.hid hs
  have HE : Hid (sameEs l m = sameEs (l.drop 0) (m.drop 0)) := rfl
  have HLEN := Lib.hid (sameEs_len (l := l) (m := m))
  clear hl hm hs
  generalize sameEs l m = T at *
  by_cases hlen : l.length = m.length
  rotate_left
  · have q1 : ((l.length : Int) != (m.length : Int)) = true := bne_iff_ne.2 (by omega)
    have HF := Lib.hid (HLEN.out hlen)
    clear hlen HLEN
    go_enter Tryz.func14, Tryz.ntmps14
    go_wp2
    go_ret
    exact ⟨ret_bool HF.out.symm, qrefl _⟩
  have q1 : ((l.length : Int) != (m.length : Int)) = false := by rw [hlen]; simp
  have HLE := Lib.hid hlen
  clear hlen HLEN
  go_enter Tryz.func14, Tryz.ntmps14
  go_wp2
  go_loopw [5] (fun iv wr => ∃ i : Nat, i ≤ l.length ∧ iv = .int .i64 i ∧ Hid (T = sameEs (l.drop i) (m.drop i)) ∧ Below w.heap.size w wr) (fun iv _ => l.length - (intOf iv).toNat)
  case atStart => exact ⟨0, Nat.zero_le _, rfl, HE, qrefl _⟩
  case round =>
    obtain ⟨i, hil, rfl, HI, hb⟩ := hrel
    by_cases hi : i < l.length
    · have hd : decide ((i : Int) < (l.length : Int)) = true := decide_eq_true (by omega)
      have hi2 : i < m.length := by rw [← HLE.out]; exact hi
      have hir : (i : Int) < (l.length : Int) := by omega
      have hir2 : (i : Int) < (m.length : Int) := by omega
      obtain ⟨x, hx⟩ : ∃ x, l[i]? = some x := ⟨_, List.getElem?_eq_getElem hi⟩
      obtain ⟨y, hy⟩ : ∃ y, m[i]? = some y := ⟨_, List.getElem?_eq_getElem hi2⟩
      obtain ⟨b1, o1, xo, xc, xf, xd, rfl, hb1, x0, x1, x2, x3, x4, hxi⟩ := cells_edit (HL.out.below hb) hx
      obtain ⟨b2, o2, yo, yc, yf, yd, rfl, hb2, y0, y1, y2, y3, y4, hyi⟩ := cells_edit (HM.out.below hb) hy
      have hsx := HS.out x (List.mem_of_getElem? hx)
      have HC := Lib.hid (fun w' (h' : Below wr.heap.size wr w') => r34Same_any x y xo xc xf xd yo yc yf yd w' (hxi.out.below h') (hyi.out.below h') hsx)
      have HN := Lib.hid (HI.out.trans (sameEs_at hx hy))
      clear hxi hyi hsx HI hx hy
      unfold editV at *
      generalize sameE x y = r at *
      have SW : Hid (∀ W : World, Below wr.heap.size wr W → (b1 < W.heap.size ∧ b2 < W.heap.size ∧ W.cell? ⟨b1, o1 + i * 5, none⟩ = some (.int .i64 x.kind) ∧ W.cell? ⟨b1, o1 + i * 5 + 1, none⟩ = some (.string x.pack) ∧ W.cell? ⟨b1, o1 + i * 5 + 2, none⟩ = some (.string x.text) ∧ W.cell? ⟨b1, o1 + i * 5 + 3, none⟩ = some (.slice xo x.old.length xc) ∧ W.cell? ⟨b1, o1 + i * 5 + 4, none⟩ = some (.slice xf x.fresh.length xd) ∧ W.cell? ⟨b2, o2 + i * 5, none⟩ = some (.int .i64 y.kind) ∧ W.cell? ⟨b2, o2 + i * 5 + 1, none⟩ = some (.string y.pack) ∧ W.cell? ⟨b2, o2 + i * 5 + 2, none⟩ = some (.string y.text) ∧ W.cell? ⟨b2, o2 + i * 5 + 3, none⟩ = some (.slice yo y.old.length yc) ∧ W.cell? ⟨b2, o2 + i * 5 + 4, none⟩ = some (.slice yf y.fresh.length yd))) := Lib.hid (fun W hW => ⟨Nat.lt_of_lt_of_le hb1 hW.size, Nat.lt_of_lt_of_le hb2 hW.size, (hW.cell (p := ⟨b1, _, none⟩) hb1).trans x0, (hW.cell (p := ⟨b1, _, none⟩) hb1).trans x1, (hW.cell (p := ⟨b1, _, none⟩) hb1).trans x2, (hW.cell (p := ⟨b1, _, none⟩) hb1).trans x3, (hW.cell (p := ⟨b1, _, none⟩) hb1).trans x4, (hW.cell (p := ⟨b2, _, none⟩) hb2).trans y0, (hW.cell (p := ⟨b2, _, none⟩) hb2).trans y1, (hW.cell (p := ⟨b2, _, none⟩) hb2).trans y2, (hW.cell (p := ⟨b2, _, none⟩) hb2).trans y3, (hW.cell (p := ⟨b2, _, none⟩) hb2).trans y4⟩)
      have hdr : Below wr.heap.size wr wr.drew := (Mod.refl [] wr).drew.below
      clear x0 x1 x2 x3 x4 y0 y1 y2 y3 y4
      go_upto_region 6 with (fail)
      go_cut [26] from 11 to 26 (fun v wx => v = .bool (!r) ∧ Below wr.heap.size wr wx)
      case first =>
        refine wp_region_noPanic (region_lex (fun W : World => b1 < W.heap.size ∧ b2 < W.heap.size ∧ W.cell? ⟨b1, o1 + i * 5, none⟩ = some (.int .i64 x.kind) ∧ W.cell? ⟨b1, o1 + i * 5 + 1, none⟩ = some (.string x.pack) ∧ W.cell? ⟨b1, o1 + i * 5 + 2, none⟩ = some (.string x.text) ∧ W.cell? ⟨b1, o1 + i * 5 + 3, none⟩ = some (.slice xo x.old.length xc) ∧ W.cell? ⟨b1, o1 + i * 5 + 4, none⟩ = some (.slice xf x.fresh.length xd) ∧ W.cell? ⟨b2, o2 + i * 5, none⟩ = some (.int .i64 y.kind) ∧ W.cell? ⟨b2, o2 + i * 5 + 1, none⟩ = some (.string y.pack) ∧ W.cell? ⟨b2, o2 + i * 5 + 2, none⟩ = some (.string y.text) ∧ W.cell? ⟨b2, o2 + i * 5 + 3, none⟩ = some (.slice yo y.old.length yc) ∧ W.cell? ⟨b2, o2 + i * 5 + 4, none⟩ = some (.slice yf y.fresh.length yd)) [true, true, true, true, true, true, true, true, false, true] mixedK (by kernel_rfl) (fun _ _ _ _ _ h => h) (SW.out _ hdr) (fun hHeld => ?_))
        iterate 8 (first | (refine lex_skip (by rfl) ?_; (try simp only [Act.put, List.setIfInBounds_toArray, List.set_cons_zero, List.set_cons_succ])) | (refine lex_take (v := ?_) (by rfl) ?_ ?_; rotate_left; (focus (intro wq hSw; (try dsimp only at hSw); go_simp; (try with_reducible rfl))); (try simp only [Act.put, List.setIfInBounds_toArray, List.set_cons_zero, List.set_cons_succ])))
        clear hHeld
        generalize wr.drew = wd at *
        (refine lex_do (by rfl) (fun K hK => ?_); go_simp)
        refine (HC.out _ hdr).mono ?_
        rintro r w3 ⟨rfl, hb3⟩
        (try go_simp)
        have hb4 := qtrans hdr hb3
        refine hK.out _ _ (SW.out _ hb4) (fun _ => ?_); clear hK K; (try simp only [Act.put, List.setIfInBounds_toArray, List.set_cons_zero, List.set_cons_succ])
        (first | (refine lex_skip (by rfl) ?_; (try simp only [Act.put, List.setIfInBounds_toArray, List.set_cons_zero, List.set_cons_succ])) | (refine lex_take (v := ?_) (by rfl) ?_ ?_; rotate_left; (focus (intro wq hSw; (try dsimp only at hSw); go_simp; (try with_reducible rfl))); (try simp only [Act.put, List.setIfInBounds_toArray, List.set_cons_zero, List.set_cons_succ])))
        refine lex_end ?_
        refine NoPanic.normal ?_
        (try go_wp2)
        go_meet
        case rel => exact ⟨rfl, hb4⟩
      case rest =>
      obtain ⟨rfl, hb4⟩ := hcut
      have hB4 := hb.trans (hb4.mono hb.size)
      clear SW HC hdr
      cases r with
      | true =>
        rw [Bool.true_and] at HN
        simp only [Bool.not_true]
        go_wp2
        go_roundw
        case rel => exact ⟨i + 1, by omega, by go_num, HN, hB4⟩
        case measure => simp [intOf]; omega
      | false =>
        rw [Bool.false_and] at HN
        simp only [Bool.not_false]
        go_wp2
        go_ret
        exact ⟨ret_bool HN.out.symm, hB4⟩
    · have hd : decide ((i : Int) < (l.length : Int)) = false := decide_eq_false (by omega)
      have HF : Hid (T = true) := by show _ = _; rw [HI.out, sameEs_end (by omega) (by rw [← HLE.out]; omega)]
      go_wp2
      go_ret
      exact ⟨ret_bool HF.out.symm, hb⟩
end Go.Proofs.YtlcpdhionefmbaaGreatDoor
