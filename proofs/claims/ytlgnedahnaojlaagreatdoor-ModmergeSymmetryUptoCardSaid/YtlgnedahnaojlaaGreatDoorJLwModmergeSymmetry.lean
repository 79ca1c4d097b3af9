/- The law ModmergeSymmetry, walked: it returns true. -/
import Derived.Test.YtlgnedahnaojlaaGreatDoorJGE
import Derived.Test.YtlgnedahnaojlaaGreatDoorJYK
namespace Go.Proofs.YtlgnedahnaojlaaGreatDoor
open Go.RowKit Go.Shelf
attribute [local go_sem] Oper.semAt_some

theorem mergeM_smn {b l r : OMod} (hb : SmN b) (hl : SmN l) (hr : SmN r) : SmN (mergeM b l r) := by
  by_cases h : mergeMErr b l r = 0
  · exact mergeM_sm hb hl hr h
  · have e : mergeM b l r = noMod := by unfold mergeM; rw [if_neg h]
    rw [e]
    exact ⟨⟨Nat.zero_le _, by simp [noMod], by simp [noMod], by simp [noMod], by simp [noMod]⟩, by simp [noMod]⟩
theorem oppM_bounds {m : OMod} (h : SmN m) : (∀ x ∈ (oppM m).decls, x.names.length ≤ 1000000 ∧ nodesN x.body ≤ 1000000) ∧ (oppM m).uses.length ≤ 1000000 ∧ (oppM m).decls.length ≤ 1000000 := by
  refine ⟨fun x hx => ?_, h.1.ulen, by show (m.decls.map oppD).length ≤ _; rw [List.length_map]; exact h.1.dlen⟩
  obtain ⟨d, hd, rfl⟩ := List.mem_map.1 hx
  refine ⟨?_, ?_⟩
  · show (rev3S d.names).length ≤ _
    unfold rev3S
    split
    · rw [List.length_reverse]; exact (h.1.decls d hd).len
    · exact (h.1.decls d hd).len
  · show nodesN (oppX d.body) ≤ _
    rw [nodes_opp]
    exact h.2 d hd
/-- The comparison of the two merges. -/
def R5S (x : OMod) (q : Int) (i : Nat) (v : Value) (w : World) : Prop := match i with
  | 0 | 1 => v = .int .i64 q
  | 2 | 3 | 7 => v = .bool true
  | 4 => MoR [] x v w
  | 5 | 6 => MoR [] (oppM x) v w
  | _ => True
theorem R5S_below {x : OMod} {q : Int} {i : Nat} {v : Value} {w w' : World} (h : R5S x q i v w) (k : Below w.heap.size w w') : R5S x q i v w' := by
  unfold R5S at *
  split at h <;> first | exact h | exact h.below k
theorem st_opp {fa : Act} {w : World} {K : Act → World → Prop} {Q : Exit → Act → World → Prop} {o : Oper} {X : List Nat} {ao : Operand} {m : OMod} {ats : Array TypeId} (ho : o.op = .call { callee := .value (.func 19), args := #[ao], argTypes := ats })
    (hX : ∀ k, k ∈ X → k < w.heap.size) (hx : MoR X m (fa.eval ao) w) (hm : SmN m) (hK : ∀ v w', Below w.heap.size w w' → MoR X (oppM m) v w' → K (fa.put o.dst v) w') : Oper.wp Tryz.prog o fa w K Q := by
  obtain ⟨au, cu, ad, cd, e, h⟩ := hx
  refine opw_call (f := 19) (vs := #[modV m au cu ad cd]) ho rfl ?_ (enters_of Tryz.func19 (by kernel_rfl) rfl) ?_
  · rw [← e]; simp only [List.map_toArray, List.map_cons, List.map_nil]
  · refine (r33Opposite_any m au ad cu cd X w hX h hm.1.dlen (fun d hd => ⟨(hm.1.decls d hd).len, hm.2 d hd⟩)).mono ?_
    rintro e w' ⟨ad', cd', rfl, hm, hb⟩
    exact ⟨_, rfl, hK _ _ hb ⟨_, _, _, _, rfl, hm⟩⟩
theorem st_same9 {fa : Act} {w : World} {K : Act → World → Prop} {Q : Exit → Act → World → Prop} {o : Oper} {x y : Operand} {m : OMod} {ats : Array TypeId} (ho : o.op = .call { callee := .value (.func 16), args := #[x, y], argTypes := ats }) (hm : MoR [] m (fa.eval x) w) (hn : MoR [] m (fa.eval y) w) (hs : (∀ x ∈ m.decls, x.names.length ≤ 1000000 ∧ nodesN x.body ≤ 1000000) ∧ m.uses.length ≤ 1000000 ∧ m.decls.length ≤ 1000000)
    (hK : ∀ w', Below w.heap.size w w' → K (fa.put o.dst (.bool true)) w') : Oper.wp Tryz.prog o fa w K Q := by
  obtain ⟨aum, cum, adm, cdm, e1, h1⟩ := hm
  obtain ⟨aun, cun, adn, cdn, e2, h2⟩ := hn
  refine opw_call (f := 16) (vs := #[modV m aum cum adm cdm, modV m aun cun adn cdn]) ho rfl ?_ (enters_of Tryz.func16 (by kernel_rfl) rfl) ?_
  · rw [← e1, ← e2]; simp only [List.map_toArray, List.map_cons, List.map_nil]
  · refine (r24Same_any m m aum adm aun adn cum cdm cun cdn w h1 h2 hs.1 hs.2.1 hs.2.2).mono ?_
    rintro e w' ⟨rfl, hb⟩
    rw [sameM_iff.2 rfl]
    exact ⟨_, rfl, hK _ hb⟩
theorem three_mods {w : World} {B : Nat} {b l r : OMod} {aub adb aul adl aur adr : Option Addr} {cub cdb cul cdl cur cdr : Nat} (h : CBox w B 25 #[.string b.label, .slice aub b.uses.length cub, .slice adb b.decls.length cdb, .string l.label, .slice aul l.uses.length cul, .slice adl l.decls.length cdl, .string r.label, .slice aur r.uses.length cur, .slice adr r.decls.length cdr]) (hb : ModIn w [] b aub cub adb cdb) (hl : ModIn w [] l aul cul adl cdl) (hr : ModIn w [] r aur cur adr cdr) : ModsAt w B [b, l, r] :=
  ⟨h.lt, fun i x hi => by
    match i, hi with
    | 0, hi => injection hi with hi; subst hi; exact ⟨_, _, _, _, hb, h.cell (i := 0) rfl, h.cell (i := 1) rfl, h.cell (i := 2) rfl⟩
    | 1, hi => injection hi with hi; subst hi; exact ⟨_, _, _, _, hl, h.cell (i := 3) rfl, h.cell (i := 4) rfl, h.cell (i := 5) rfl⟩
    | 2, hi => injection hi with hi; subst hi; exact ⟨_, _, _, _, hr, h.cell (i := 6) rfl, h.cell (i := 7) rfl, h.cell (i := 8) rfl⟩
    | (i + 3), hi => simp at hi⟩
set_option maxRecDepth 100000 in
set_option maxHeartbeats 8000000 in
theorem LModmergeSymmetry_any (b l r : OMod) (aub adb aul adl aur adr : Option Addr) (cub cdb cul cdl cur cdr : Nat) (w : World) (hb : ModIn w [] b aub cub adb cdb) (hl : ModIn w [] l aul cul adl cdl) (hr : ModIn w [] r aur cur adr cdr) (hbb : BigM b) (hbl : BigM l) (hbr : BigM r) :
    Calls Tryz.prog 5 #[modV b aub cub adb cdb, modV l aul cul adl cdl, modV r aur cur adr cdr] w fun e w' => e = .returned (.bool true) ∧ Below w.heap.size w w' := by
  obtain ⟨gb, gl, gr, hA, hs3⟩ := three_boxes w 25 #[.string b.label, .slice aub b.uses.length cub, .slice adb b.decls.length cdb] #[.string l.label, .slice aul l.uses.length cul, .slice adl l.decls.length cdl] #[.string r.label, .slice aur r.uses.length cur, .slice adr r.decls.length cdr]
  have HMb := Lib.hid hb
  have HMl := Lib.hid hl
  have HMr := Lib.hid hr
  have HGb := Lib.hid hbb
  have HGl := Lib.hid hbl
  have HGr := Lib.hid hbr
  have HAW := Lib.hid awake33_any
  clear hb hl hr hbb hbl hbr
  unfold modV
  go_enter Tryz.func5, Tryz.ntmps5
  go_upto_region 1 with (fail)
  generalize ((w.alloc (.cells #[.string b.label, .slice aub b.uses.length cub, .slice adb b.decls.length cdb] 25)).alloc (.cells #[.string l.label, .slice aul l.uses.length cul, .slice adl l.decls.length cdl] 25)).alloc (.cells #[.string r.label, .slice aur r.uses.length cur, .slice adr r.decls.length cdr] 25) = W0 at *
  clear hs3
  obtain ⟨R, hR⟩ : ∃ R, w.heap.size + 1 + 1 = R := ⟨_, rfl⟩
  rw [hR] at gr ⊢
  obtain ⟨M, hM⟩ : ∃ M, w.heap.size + 1 = M := ⟨_, rfl⟩
  rw [hM] at gl ⊢
  clear hR
  obtain ⟨B, hB⟩ : ∃ B, w.heap.size = B := ⟨_, rfl⟩
  rw [hB] at gb ⊢
  clear hM hB
  have HW0 := Lib.hid hA
  have HBb0 := Lib.hid gb
  have HBl0 := Lib.hid gl
  have HBr0 := Lib.hid gr
  clear hA gb gl gr
  have yb0 := (HBb0.out).cell (i := 0) (v := .string b.label) rfl
  have yb1 := (HBb0.out).cell (i := 1) (v := .slice aub b.uses.length cub) rfl
  have yb2 := (HBb0.out).cell (i := 2) (v := .slice adb b.decls.length cdb) rfl
  have ybl := (HBb0.out).lt
  have yl0 := (HBl0.out).cell (i := 0) (v := .string l.label) rfl
  have yl1 := (HBl0.out).cell (i := 1) (v := .slice aul l.uses.length cul) rfl
  have yl2 := (HBl0.out).cell (i := 2) (v := .slice adl l.decls.length cdl) rfl
  have yll := (HBl0.out).lt
  have yr0 := (HBr0.out).cell (i := 0) (v := .string r.label) rfl
  have yr1 := (HBr0.out).cell (i := 1) (v := .slice aur r.uses.length cur) rfl
  have yr2 := (HBr0.out).cell (i := 2) (v := .slice adr r.decls.length cdr) rfl
  have yrl := (HBr0.out).lt
  have hal := qalloc W0 (.cells #[.string b.label, .slice aub b.uses.length cub, .slice adb b.decls.length cdb, .string l.label, .slice aul l.uses.length cul, .slice adl l.decls.length cdl, .string r.label, .slice aur r.uses.length cur, .slice adr r.decls.length cdr] 25)
  have hw1 := HW0.out.trans (hal.mono HW0.out.size)
  have HG := Lib.hid (great33_any [b, l, r] W0.heap.size _ (three_mods (CBox.new W0 25 #[.string b.label, .slice aub b.uses.length cub, .slice adb b.decls.length cdb, .string l.label, .slice aul l.uses.length cul, .slice adl l.decls.length cdl, .string r.label, .slice aur r.uses.length cur, .slice adr r.decls.length cdr]) (HMb.out.below hw1) (HMl.out.below hw1) (HMr.out.below hw1)) (by
    intro x hx
    simp only [List.mem_cons, List.not_mem_nil, or_false] at hx
    rcases hx with rfl | rfl | rfl
    · exact HGb.out
    · exact HGl.out
    · exact HGr.out) (by simp))
  have HGF : Hid ([b, l, r].any greatM = false → SmN b ∧ SmN l ∧ SmN r) := fun h => by
    simp only [List.any_cons, List.any_nil, Bool.or_false, Bool.or_eq_false_iff] at h
    exact ⟨smM_of HGb.out h.1, smM_of HGl.out h.2.1, smM_of HGr.out h.2.2⟩
  have HAL := Lib.hid hal
  clear hal hw1
  generalize [b, l, r].any greatM = q at *
  cases q with
  | true =>
    go_wp2_with (fail)
    refine HG.out.mono ?_
    rintro e w2 ⟨rfl, hb2⟩
    have HW2 := Lib.hid (HW0.out.trans ((HAL.out.trans (hb2.mono HAL.out.size)).mono HW0.out.size))
    go_wp2_with (fail)
    refine (HAW.out _).mono ?_
    rintro e wz ⟨rfl, hbz⟩
    go_wp2
    go_ret
    exact ⟨rfl, HW2.out.trans (hbz.mono HW2.out.size)⟩
  | false =>
    obtain ⟨sb, sl, sr⟩ := HGF.out rfl
    have HSb := Lib.hid sb
    have HSl := Lib.hid sl
    have HSr := Lib.hid sr
    clear sb sl sr HGF
    go_wp2_with (fail)
    refine HG.out.mono ?_
    rintro e w2 ⟨rfl, hb2⟩
    have hb02 := HAL.out.trans (hb2.mono HAL.out.size)
    have HBb2 := Lib.hid (HBb0.out.below hb02)
    have HBl2 := Lib.hid (HBl0.out.below hb02)
    have HBr2 := Lib.hid (HBr0.out.below hb02)
    have HW2 := Lib.hid (HW0.out.trans (hb02.mono HW0.out.size))
    clear HBb0 HBl0 HBr0 HW0
    clear hb2 hb02 HAL HG yb0 yb1 yb2 ybl yl0 yl1 yl2 yll yr0 yr1 yr2 yrl
    have yb0 := (HBb2.out).cell (i := 0) (v := .string b.label) rfl
    have yb1 := (HBb2.out).cell (i := 1) (v := .slice aub b.uses.length cub) rfl
    have yb2 := (HBb2.out).cell (i := 2) (v := .slice adb b.decls.length cdb) rfl
    have ybl := (HBb2.out).lt
    have yl0 := (HBl2.out).cell (i := 0) (v := .string l.label) rfl
    have yl1 := (HBl2.out).cell (i := 1) (v := .slice aul l.uses.length cul) rfl
    have yl2 := (HBl2.out).cell (i := 2) (v := .slice adl l.decls.length cdl) rfl
    have yll := (HBl2.out).lt
    have yr0 := (HBr2.out).cell (i := 0) (v := .string r.label) rfl
    have yr1 := (HBr2.out).cell (i := 1) (v := .slice aur r.uses.length cur) rfl
    have yr2 := (HBr2.out).cell (i := 2) (v := .slice adr r.decls.length cdr) rfl
    have yrl := (HBr2.out).lt
    have HCL := Lib.hid (mClean_any b aub cub adb cdb w2 (HMb.out.below HW2.out) HSb.out.1)
    unfold modV at HCL
    obtain ⟨cb, hcb⟩ : ∃ c, cleanB b = c := ⟨_, rfl⟩
    have HCb := Lib.hid hcb
    rw [hcb] at HCL
    clear hcb
    cases cb with
    | false =>
      go_wp2_with (fail)
      refine HCL.out.mono ?_
      rintro e w3 ⟨rfl, hbc⟩
      have HW3 := Lib.hid (HW2.out.trans (hbc.mono HW2.out.size))
      go_wp2_with (fail)
      refine (HAW.out _).mono ?_
      rintro e wz ⟨rfl, hbz⟩
      go_wp2
      go_ret
      exact ⟨rfl, HW3.out.trans (hbz.mono HW3.out.size)⟩
    | true =>
      go_wp2_with (fail)
      refine HCL.out.mono ?_
      rintro e w3 ⟨rfl, hbc⟩
      have HBb3 := Lib.hid (HBb2.out.below hbc)
      have HBl3 := Lib.hid (HBl2.out.below hbc)
      have HBr3 := Lib.hid (HBr2.out.below hbc)
      have HW3 := Lib.hid (HW2.out.trans (hbc.mono HW2.out.size))
      clear HBb2 HBl2 HBr2 HW2
      clear hbc HCL yb0 yb1 yb2 ybl yl0 yl1 yl2 yll yr0 yr1 yr2 yrl
      have yb0 := (HBb3.out).cell (i := 0) (v := .string b.label) rfl
      have yb1 := (HBb3.out).cell (i := 1) (v := .slice aub b.uses.length cub) rfl
      have yb2 := (HBb3.out).cell (i := 2) (v := .slice adb b.decls.length cdb) rfl
      have ybl := (HBb3.out).lt
      have yl0 := (HBl3.out).cell (i := 0) (v := .string l.label) rfl
      have yl1 := (HBl3.out).cell (i := 1) (v := .slice aul l.uses.length cul) rfl
      have yl2 := (HBl3.out).cell (i := 2) (v := .slice adl l.decls.length cdl) rfl
      have yll := (HBl3.out).lt
      have yr0 := (HBr3.out).cell (i := 0) (v := .string r.label) rfl
      have yr1 := (HBr3.out).cell (i := 1) (v := .slice aur r.uses.length cur) rfl
      have yr2 := (HBr3.out).cell (i := 2) (v := .slice adr r.decls.length cdr) rfl
      have yrl := (HBr3.out).lt
      have HCL := Lib.hid (mClean_any l aul cul adl cdl w3 (HMl.out.below HW3.out) HSl.out.1)
      unfold modV at HCL
      obtain ⟨cl, hcl⟩ : ∃ c, cleanB l = c := ⟨_, rfl⟩
      have HCl := Lib.hid hcl
      rw [hcl] at HCL
      clear hcl
      cases cl with
      | false =>
        go_wp2_with (fail)
        refine HCL.out.mono ?_
        rintro e w4 ⟨rfl, hbc⟩
        have HW4 := Lib.hid (HW3.out.trans (hbc.mono HW3.out.size))
        go_wp2_with (fail)
        refine (HAW.out _).mono ?_
        rintro e wz ⟨rfl, hbz⟩
        go_wp2
        go_ret
        exact ⟨rfl, HW4.out.trans (hbz.mono HW4.out.size)⟩
      | true =>
        go_wp2_with (fail)
        refine HCL.out.mono ?_
        rintro e w4 ⟨rfl, hbc⟩
        have HBb4 := Lib.hid (HBb3.out.below hbc)
        have HBl4 := Lib.hid (HBl3.out.below hbc)
        have HBr4 := Lib.hid (HBr3.out.below hbc)
        have HW4 := Lib.hid (HW3.out.trans (hbc.mono HW3.out.size))
        clear HBb3 HBl3 HBr3 HW3
        clear hbc HCL yb0 yb1 yb2 ybl yl0 yl1 yl2 yll yr0 yr1 yr2 yrl
        have yb0 := (HBb4.out).cell (i := 0) (v := .string b.label) rfl
        have yb1 := (HBb4.out).cell (i := 1) (v := .slice aub b.uses.length cub) rfl
        have yb2 := (HBb4.out).cell (i := 2) (v := .slice adb b.decls.length cdb) rfl
        have ybl := (HBb4.out).lt
        have yl0 := (HBl4.out).cell (i := 0) (v := .string l.label) rfl
        have yl1 := (HBl4.out).cell (i := 1) (v := .slice aul l.uses.length cul) rfl
        have yl2 := (HBl4.out).cell (i := 2) (v := .slice adl l.decls.length cdl) rfl
        have yll := (HBl4.out).lt
        have yr0 := (HBr4.out).cell (i := 0) (v := .string r.label) rfl
        have yr1 := (HBr4.out).cell (i := 1) (v := .slice aur r.uses.length cur) rfl
        have yr2 := (HBr4.out).cell (i := 2) (v := .slice adr r.decls.length cdr) rfl
        have yrl := (HBr4.out).lt
        have HCL := Lib.hid (mClean_any r aur cur adr cdr w4 (HMr.out.below HW4.out) HSr.out.1)
        unfold modV at HCL
        obtain ⟨cr, hcr⟩ : ∃ c, cleanB r = c := ⟨_, rfl⟩
        have HCr := Lib.hid hcr
        rw [hcr] at HCL
        clear hcr
        cases cr with
        | false =>
          go_wp2_with (fail)
          refine HCL.out.mono ?_
          rintro e w5 ⟨rfl, hbc⟩
          have HW5 := Lib.hid (HW4.out.trans (hbc.mono HW4.out.size))
          go_wp2_with (fail)
          refine (HAW.out _).mono ?_
          rintro e wz ⟨rfl, hbz⟩
          go_wp2
          go_ret
          exact ⟨rfl, HW5.out.trans (hbz.mono HW5.out.size)⟩
        | true =>
          go_wp2_with (fail)
          refine HCL.out.mono ?_
          rintro e w5 ⟨rfl, hbc⟩
          have HBb5 := Lib.hid (HBb4.out.below hbc)
          have HBl5 := Lib.hid (HBl4.out.below hbc)
          have HBr5 := Lib.hid (HBr4.out.below hbc)
          have HW5 := Lib.hid (HW4.out.trans (hbc.mono HW4.out.size))
          clear HBb4 HBl4 HBr4 HW4
          clear hbc HCL yb0 yb1 yb2 ybl yl0 yl1 yl2 yll yr0 yr1 yr2 yrl
          have yb0 := (HBb5.out).cell (i := 0) (v := .string b.label) rfl
          have yb1 := (HBb5.out).cell (i := 1) (v := .slice aub b.uses.length cub) rfl
          have yb2 := (HBb5.out).cell (i := 2) (v := .slice adb b.decls.length cdb) rfl
          have ybl := (HBb5.out).lt
          have yl0 := (HBl5.out).cell (i := 0) (v := .string l.label) rfl
          have yl1 := (HBl5.out).cell (i := 1) (v := .slice aul l.uses.length cul) rfl
          have yl2 := (HBl5.out).cell (i := 2) (v := .slice adl l.decls.length cdl) rfl
          have yll := (HBl5.out).lt
          have yr0 := (HBr5.out).cell (i := 0) (v := .string r.label) rfl
          have yr1 := (HBr5.out).cell (i := 1) (v := .slice aur r.uses.length cur) rfl
          have yr2 := (HBr5.out).cell (i := 2) (v := .slice adr r.decls.length cdr) rfl
          have yrl := (HBr5.out).lt
          have HC := Lib.hid (mMerge_any b l r aub aul aur adb adl adr cub cul cur cdb cdl cdr [] w5 (by simp) ⟨HMb.out.below HW5.out, HSb.out.1, HSb.out.2⟩ ⟨HMl.out.below HW5.out, HSl.out.1, HSl.out.2⟩ ⟨HMr.out.below HW5.out, HSr.out.1, HSr.out.2⟩)
          unfold modV at HC
          obtain ⟨qm, hqm⟩ : ∃ q, mergeMErr b l r = q := ⟨_, rfl⟩
          obtain ⟨xm, hxm⟩ : ∃ x, mergeM b l r = x := ⟨_, rfl⟩
          have HQm := Lib.hid hqm
          have HXm := Lib.hid hxm
          clear hqm hxm
          go_wp2_with (fail)
          refine HC.out.mono ?_
          rintro e v6 ⟨aum, cum, adm, cdm, rfl, hmx, hbm⟩
          clear HC yb0 yb1 yb2 ybl yl0 yl1 yl2 yll yr0 yr1 yr2 yrl 
          rw [HQm.out, HXm.out]
          rw [HXm.out] at hmx
          unfold modV
          have hal := qalloc v6 (.cells #[.string xm.label, .slice aum xm.uses.length cum, .slice adm xm.decls.length cdm] 25)
          have hbn := qtrans hbm hal
          have HBXm := Lib.hid (CBox.new v6 25 #[.string xm.label, .slice aum xm.uses.length cum, .slice adm xm.decls.length cdm])
          have HMXm := Lib.hid (hmx.below hal)
          have HBb6 := Lib.hid (HBb5.out.below hbn)
          have HBl6 := Lib.hid (HBl5.out.below hbn)
          have HBr6 := Lib.hid (HBr5.out.below hbn)
          have HW6 := Lib.hid (HW5.out.trans (hbn.mono HW5.out.size))
          clear HBb5 HBl5 HBr5 HW5
          go_upto_region 4 with (fail)
          clear hal hbn hbm hmx
          generalize v6.alloc (.cells #[.string xm.label, .slice aum xm.uses.length cum, .slice adm xm.decls.length cdm] 25) = w6 at *
          generalize v6.heap.size = Nm at *
          have yb0 := (HBb6.out).cell (i := 0) (v := .string b.label) rfl
          have yb1 := (HBb6.out).cell (i := 1) (v := .slice aub b.uses.length cub) rfl
          have yb2 := (HBb6.out).cell (i := 2) (v := .slice adb b.decls.length cdb) rfl
          have ybl := (HBb6.out).lt
          have yl0 := (HBl6.out).cell (i := 0) (v := .string l.label) rfl
          have yl1 := (HBl6.out).cell (i := 1) (v := .slice aul l.uses.length cul) rfl
          have yl2 := (HBl6.out).cell (i := 2) (v := .slice adl l.decls.length cdl) rfl
          have yll := (HBl6.out).lt
          have yr0 := (HBr6.out).cell (i := 0) (v := .string r.label) rfl
          have yr1 := (HBr6.out).cell (i := 1) (v := .slice aur r.uses.length cur) rfl
          have yr2 := (HBr6.out).cell (i := 2) (v := .slice adr r.decls.length cdr) rfl
          have yrl := (HBr6.out).lt
          have HC := Lib.hid (mMerge_any b r l aub aur aul adb adr adl cub cur cul cdb cdr cdl [] w6 (by simp) ⟨HMb.out.below HW6.out, HSb.out.1, HSb.out.2⟩ ⟨HMr.out.below HW6.out, HSr.out.1, HSr.out.2⟩ ⟨HMl.out.below HW6.out, HSl.out.1, HSl.out.2⟩)
          unfold modV at HC
          obtain ⟨qc, hqc⟩ : ∃ q, mergeMErr b r l = q := ⟨_, rfl⟩
          obtain ⟨xc, hxc⟩ : ∃ x, mergeM b r l = x := ⟨_, rfl⟩
          have HQc := Lib.hid hqc
          have HXc := Lib.hid hxc
          clear hqc hxc
          go_wp2_with (fail)
          refine HC.out.mono ?_
          rintro e v7 ⟨auc, cuc, adc, cdc, rfl, hmx, hbm⟩
          clear HC yb0 yb1 yb2 ybl yl0 yl1 yl2 yll yr0 yr1 yr2 yrl 
          rw [HQc.out, HXc.out]
          rw [HXc.out] at hmx
          unfold modV
          have hal := qalloc v7 (.cells #[.string xc.label, .slice auc xc.uses.length cuc, .slice adc xc.decls.length cdc] 25)
          have hbn := qtrans hbm hal
          have HBXc := Lib.hid (CBox.new v7 25 #[.string xc.label, .slice auc xc.uses.length cuc, .slice adc xc.decls.length cdc])
          have HMXc := Lib.hid (hmx.below hal)
          have HBb7 := Lib.hid (HBb6.out.below hbn)
          have HBl7 := Lib.hid (HBl6.out.below hbn)
          have HBr7 := Lib.hid (HBr6.out.below hbn)
          have HW7 := Lib.hid (HW6.out.trans (hbn.mono HW6.out.size))
          have HBXm := Lib.hid (HBXm.out.below hbn)
          have HMXm := Lib.hid (HMXm.out.below hbn)
          clear HBb6 HBl6 HBr6 HW6
          go_upto_region 5 with (fail)
          clear hal hbn hbm hmx
          generalize v7.alloc (.cells #[.string xc.label, .slice auc xc.uses.length cuc, .slice adc xc.decls.length cdc] 25) = w7 at *
          generalize v7.heap.size = Nc at *
          obtain ⟨e1, e2⟩ := merge_opp HCb.out HCl.out HCr.out
          have HSX : Hid (SmN xm) := by show SmN xm; rw [← HXm.out]; exact mergeM_smn HSb.out HSl.out HSr.out
          rw [HXm.out] at e2
          have k1 : qm = qc := HQm.out.symm.trans (e1.trans HQc.out)
          have k2 : oppM xm = xc := e2.trans HXc.out
          clear HQm HQc HXm HXc e1 e2
          subst k1 k2
          refine wp_region_noPanic (region_relQ 8 (R5S xm qm) mixedK (by kernel_rfl) (fun _ _ _ h => h) (by kernel_rfl) (fun i v w w' h k => R5S_below h k) ?_ ?_)
          · show AllQ _ _ _ _ _ _ _ 0 (_ :: _)
            refine AllQ.step ?_ ?_
            · intro fa vals w1 hf hbw hn
              refine ⟨(fun _ _ e => by cases e), fun K hK => ?_⟩
              exact opw_move (x := .tmp 8) rfl (hK.out _ _ (qrefl _) ((hf.out 8 (by kernel_rfl)).trans rfl))
            refine AllQ.step ?_ ?_
            · intro fa vals w1 hf hbw hn
              refine ⟨(fun _ _ e => by cases e), fun K hK => ?_⟩
              exact opw_move (x := .tmp 10) rfl (hK.out _ _ (qrefl _) ((hf.out 10 (by kernel_rfl)).trans rfl))
            refine AllQ.step ?_ ?_
            · intro fa vals w1 hf hbw hn
              refine ⟨(fun _ _ e => by cases e), fun K hK => ?_⟩
              exact opw_eqI rfl ((hf.at_ 0 46 (by decide) rfl).trans (hn 0 (by decide))) ((hf.at_ 1 47 (by decide) rfl).trans (hn 1 (by decide))) (by simp) (hK.out _ _ (qrefl _) rfl)
            refine AllQ.step ?_ ?_
            · intro fa vals w1 hf hbw hn
              refine ⟨(fun _ _ e => by cases e), fun K hK => ?_⟩
              exact opw_move (x := .tmp 48) rfl (hK.out _ _ (qrefl _) ((hf.at_ 2 48 (by decide) rfl).trans (hn 2 (by decide))))
            refine AllQ.step ?_ ?_
            · intro fa vals w1 hf hbw hn
              refine ⟨(fun g b e => by obtain ⟨rfl, rfl⟩ := Prod.mk.inj (Option.some.inj e); exact ⟨by decide, ⟨_, rfl⟩, (hn 3 (by decide))⟩), fun K hK => ?_⟩
              exact opw_loadM (x := .tmp 7) (B := _) rfl ((hf.out 7 (by kernel_rfl)).trans rfl) (HBXm.out.below hbw) (hK.out _ _ (qrefl _) ⟨_, _, _, _, rfl, HMXm.out.below hbw⟩)
            refine AllQ.step ?_ ?_
            · intro fa vals w1 hf hbw hn
              refine ⟨(fun g b e => by obtain ⟨rfl, rfl⟩ := Prod.mk.inj (Option.some.inj e); exact ⟨by decide, ⟨_, rfl⟩, (hn 3 (by decide))⟩), fun K hK => ?_⟩
              exact st_opp (X := []) (m := xm) rfl (by simp) (by rw [(hf.at_ 4 50 (by decide) rfl)]; exact (hn 4 (by decide))) HSX.out (fun v w' hb hd => hK.out v w' hb hd)
            refine AllQ.step ?_ ?_
            · intro fa vals w1 hf hbw hn
              refine ⟨(fun g b e => by obtain ⟨rfl, rfl⟩ := Prod.mk.inj (Option.some.inj e); exact ⟨by decide, ⟨_, rfl⟩, (hn 3 (by decide))⟩), fun K hK => ?_⟩
              exact opw_loadM (x := .tmp 9) (B := _) rfl ((hf.out 9 (by kernel_rfl)).trans rfl) (HBXc.out.below hbw) (hK.out _ _ (qrefl _) ⟨_, _, _, _, rfl, HMXc.out.below hbw⟩)
            refine AllQ.step ?_ ?_
            · intro fa vals w1 hf hbw hn
              refine ⟨(fun g b e => by obtain ⟨rfl, rfl⟩ := Prod.mk.inj (Option.some.inj e); exact ⟨by decide, ⟨_, rfl⟩, (hn 3 (by decide))⟩), fun K hK => ?_⟩
              exact st_same9 (m := oppM xm) rfl (by rw [(hf.at_ 5 51 (by decide) rfl)]; exact (hn 5 (by decide))) (by rw [(hf.at_ 6 52 (by decide) rfl)]; exact (hn 6 (by decide))) (oppM_bounds HSX.out) (fun w' hb => hK.out _ w' hb rfl)
            exact trivial
          · intro vals w9 hbw hr
            have e3 : vals 3 = .bool true := hr 3 (by decide)
            have e7 : vals 7 = .bool true := hr 7 (by decide)
            refine wpList_frame (h := by simp only [fullR, dstR, List.getElem?_toArray, List.getElem?_cons_succ, List.getElem?_cons_zero, Option.bind_some, Act.put, List.setIfInBounds_toArray, List.set_cons_zero, List.set_cons_succ, e3, e7]; rfl) ?_
            clear hr e3 e7
            generalize vals 0 = u90
            generalize vals 1 = u91
            generalize vals 2 = u92
            generalize vals 4 = u94
            generalize vals 5 = u95
            generalize vals 6 = u96
            have HW9 := Lib.hid (HW7.out.trans (hbw.mono HW7.out.size))
            clear hbw
            simp only [List.drop_succ_cons, List.drop_zero]
            go_wp2_with (fail)
            refine (HAW.out _).mono ?_
            rintro e wz ⟨rfl, hbz⟩
            go_wp2
            refine NoPanic.normal ?_
            go_wp2
            go_ret
            exact ⟨rfl, HW9.out.trans (hbz.mono HW9.out.size)⟩
end Go.Proofs.YtlgnedahnaojlaaGreatDoor

