/- The law ModmergeAgain, walked: it returns true. -/
import Derived.Test.YtlgnedahnaojlaaGreatDoorJGE
import Derived.Test.YtlgnedahnaojlaaGreatDoorJYH
namespace Go.Proofs.YtlgnedahnaojlaaGreatDoor
open Go.RowKit Go.Shelf
attribute [local go_sem] Oper.semAt_some

theorem three_mods {w : World} {B : Nat} {b l r : OMod} {aub adb aul adl aur adr : Option Addr} {cub cdb cul cdl cur cdr : Nat} (h : CBox w B 25 #[.string b.label, .slice aub b.uses.length cub, .slice adb b.decls.length cdb, .string l.label, .slice aul l.uses.length cul, .slice adl l.decls.length cdl, .string r.label, .slice aur r.uses.length cur, .slice adr r.decls.length cdr]) (hb : ModIn w [] b aub cub adb cdb) (hl : ModIn w [] l aul cul adl cdl) (hr : ModIn w [] r aur cur adr cdr) : ModsAt w B [b, l, r] :=
  ⟨h.lt, fun i x hi => by
    match i, hi with
    | 0, hi => injection hi with hi; subst hi; exact ⟨_, _, _, _, hb, h.cell (i := 0) rfl, h.cell (i := 1) rfl, h.cell (i := 2) rfl⟩
    | 1, hi => injection hi with hi; subst hi; exact ⟨_, _, _, _, hl, h.cell (i := 3) rfl, h.cell (i := 4) rfl, h.cell (i := 5) rfl⟩
    | 2, hi => injection hi with hi; subst hi; exact ⟨_, _, _, _, hr, h.cell (i := 6) rfl, h.cell (i := 7) rfl, h.cell (i := 8) rfl⟩
    | (i + 3), hi => simp at hi⟩
set_option maxRecDepth 100000 in
set_option maxHeartbeats 8000000 in
theorem LModmergeAgain_any (b l r : OMod) (aub adb aul adl aur adr : Option Addr) (cub cdb cul cdl cur cdr : Nat) (w : World) (hb : ModIn w [] b aub cub adb cdb) (hl : ModIn w [] l aul cul adl cdl) (hr : ModIn w [] r aur cur adr cdr) (hbb : BigM b) (hbl : BigM l) (hbr : BigM r) :
    Calls Tryz.prog 7 #[modV b aub cub adb cdb, modV l aul cul adl cdl, modV r aur cur adr cdr] w fun e w' => e = .returned (.bool true) ∧ Below w.heap.size w w' := by
  obtain ⟨gb, gl, gr, hA, hs3⟩ := three_boxes w 25 #[.string b.label, .slice aub b.uses.length cub, .slice adb b.decls.length cdb] #[.string l.label, .slice aul l.uses.length cul, .slice adl l.decls.length cdl] #[.string r.label, .slice aur r.uses.length cur, .slice adr r.decls.length cdr]
  have HMb := Lib.hid hb
  have HMl := Lib.hid hl
  have HMr := Lib.hid hr
  have HGb := Lib.hid hbb
  have HGl := Lib.hid hbl
  have HGr := Lib.hid hbr
  have HAW := Lib.hid awake33_any
  clear hb hl hr hbb hbl hbr
  unfold modV
  go_enter Tryz.func7, Tryz.ntmps7
  go_upto_region 1 with (fail)
  generalize ((w.alloc (.cells #[.string b.label, .slice aub b.uses.length cub, .slice adb b.decls.length cdb] 25)).alloc (.cells #[.string l.label, .slice aul l.uses.length cul, .slice adl l.decls.length cdl] 25)).alloc (.cells #[.string r.label, .slice aur r.uses.length cur, .slice adr r.decls.length cdr] 25) = W0 at *
  clear hs3
  obtain ⟨R, hR⟩ : ∃ R, w.heap.size + 1 + 1 = R := ⟨_, rfl⟩
  rw [hR] at gr ⊢
  obtain ⟨M, hM⟩ : ∃ M, w.heap.size + 1 = M := ⟨_, rfl⟩
  rw [hM] at gl ⊢
  clear hR
  obtain ⟨B, hB⟩ : ∃ B, w.heap.size = B := ⟨_, rfl⟩
  rw [hB] at gb ⊢
  clear hM hB
  have HW0 := Lib.hid hA
  have HBb0 := Lib.hid gb
  have HBl0 := Lib.hid gl
  have HBr0 := Lib.hid gr
  clear hA gb gl gr
  have yb0 := (HBb0.out).cell (i := 0) (v := .string b.label) rfl
  have yb1 := (HBb0.out).cell (i := 1) (v := .slice aub b.uses.length cub) rfl
  have yb2 := (HBb0.out).cell (i := 2) (v := .slice adb b.decls.length cdb) rfl
  have ybl := (HBb0.out).lt
  have yl0 := (HBl0.out).cell (i := 0) (v := .string l.label) rfl
  have yl1 := (HBl0.out).cell (i := 1) (v := .slice aul l.uses.length cul) rfl
  have yl2 := (HBl0.out).cell (i := 2) (v := .slice adl l.decls.length cdl) rfl
  have yll := (HBl0.out).lt
  have yr0 := (HBr0.out).cell (i := 0) (v := .string r.label) rfl
  have yr1 := (HBr0.out).cell (i := 1) (v := .slice aur r.uses.length cur) rfl
  have yr2 := (HBr0.out).cell (i := 2) (v := .slice adr r.decls.length cdr) rfl
  have yrl := (HBr0.out).lt
  have hal := qalloc W0 (.cells #[.string b.label, .slice aub b.uses.length cub, .slice adb b.decls.length cdb, .string l.label, .slice aul l.uses.length cul, .slice adl l.decls.length cdl, .string r.label, .slice aur r.uses.length cur, .slice adr r.decls.length cdr] 25)
  have hw1 := HW0.out.trans (hal.mono HW0.out.size)
  have HG := Lib.hid (great33_any [b, l, r] W0.heap.size _ (three_mods (CBox.new W0 25 #[.string b.label, .slice aub b.uses.length cub, .slice adb b.decls.length cdb, .string l.label, .slice aul l.uses.length cul, .slice adl l.decls.length cdl, .string r.label, .slice aur r.uses.length cur, .slice adr r.decls.length cdr]) (HMb.out.below hw1) (HMl.out.below hw1) (HMr.out.below hw1)) (by
    intro x hx
    simp only [List.mem_cons, List.not_mem_nil, or_false] at hx
    rcases hx with rfl | rfl | rfl
    · exact HGb.out
    · exact HGl.out
    · exact HGr.out) (by simp))
  have HGF : Hid ([b, l, r].any greatM = false → SmN b ∧ SmN l ∧ SmN r) := fun h => by
    simp only [List.any_cons, List.any_nil, Bool.or_false, Bool.or_eq_false_iff] at h
    exact ⟨smM_of HGb.out h.1, smM_of HGl.out h.2.1, smM_of HGr.out h.2.2⟩
  have HAL := Lib.hid hal
  clear hal hw1
  generalize [b, l, r].any greatM = q at *
  cases q with
  | true =>
    go_wp2_with (fail)
    refine HG.out.mono ?_
    rintro e w2 ⟨rfl, hb2⟩
    have HW2 := Lib.hid (HW0.out.trans ((HAL.out.trans (hb2.mono HAL.out.size)).mono HW0.out.size))
    go_wp2_with (fail)
    refine (HAW.out _).mono ?_
    rintro e wz ⟨rfl, hbz⟩
    go_wp2
    go_ret
    exact ⟨rfl, HW2.out.trans (hbz.mono HW2.out.size)⟩
  | false =>
    obtain ⟨sb, sl, sr⟩ := HGF.out rfl
    have HSb := Lib.hid sb
    have HSl := Lib.hid sl
    have HSr := Lib.hid sr
    clear sb sl sr HGF
    go_wp2_with (fail)
    refine HG.out.mono ?_
    rintro e w2 ⟨rfl, hb2⟩
    have hb02 := HAL.out.trans (hb2.mono HAL.out.size)
    have HBb2 := Lib.hid (HBb0.out.below hb02)
    have HBl2 := Lib.hid (HBl0.out.below hb02)
    have HBr2 := Lib.hid (HBr0.out.below hb02)
    have HW2 := Lib.hid (HW0.out.trans (hb02.mono HW0.out.size))
    clear HBb0 HBl0 HBr0 HW0
    clear hb2 hb02 HAL HG yb0 yb1 yb2 ybl yl0 yl1 yl2 yll yr0 yr1 yr2 yrl
    have yb0 := (HBb2.out).cell (i := 0) (v := .string b.label) rfl
    have yb1 := (HBb2.out).cell (i := 1) (v := .slice aub b.uses.length cub) rfl
    have yb2 := (HBb2.out).cell (i := 2) (v := .slice adb b.decls.length cdb) rfl
    have ybl := (HBb2.out).lt
    have yl0 := (HBl2.out).cell (i := 0) (v := .string l.label) rfl
    have yl1 := (HBl2.out).cell (i := 1) (v := .slice aul l.uses.length cul) rfl
    have yl2 := (HBl2.out).cell (i := 2) (v := .slice adl l.decls.length cdl) rfl
    have yll := (HBl2.out).lt
    have yr0 := (HBr2.out).cell (i := 0) (v := .string r.label) rfl
    have yr1 := (HBr2.out).cell (i := 1) (v := .slice aur r.uses.length cur) rfl
    have yr2 := (HBr2.out).cell (i := 2) (v := .slice adr r.decls.length cdr) rfl
    have yrl := (HBr2.out).lt
    have HCL := Lib.hid (mClean_any b aub cub adb cdb w2 (HMb.out.below HW2.out) HSb.out.1)
    unfold modV at HCL
    obtain ⟨cb, hcb⟩ : ∃ c, cleanB b = c := ⟨_, rfl⟩
    have HCb := Lib.hid hcb
    rw [hcb] at HCL
    clear hcb
    cases cb with
    | false =>
      go_wp2_with (fail)
      refine HCL.out.mono ?_
      rintro e w3 ⟨rfl, hbc⟩
      have HW3 := Lib.hid (HW2.out.trans (hbc.mono HW2.out.size))
      go_wp2_with (fail)
      refine (HAW.out _).mono ?_
      rintro e wz ⟨rfl, hbz⟩
      go_wp2
      go_ret
      exact ⟨rfl, HW3.out.trans (hbz.mono HW3.out.size)⟩
    | true =>
      go_wp2_with (fail)
      refine HCL.out.mono ?_
      rintro e w3 ⟨rfl, hbc⟩
      have HBb3 := Lib.hid (HBb2.out.below hbc)
      have HBl3 := Lib.hid (HBl2.out.below hbc)
      have HBr3 := Lib.hid (HBr2.out.below hbc)
      have HW3 := Lib.hid (HW2.out.trans (hbc.mono HW2.out.size))
      clear HBb2 HBl2 HBr2 HW2
      clear hbc HCL yb0 yb1 yb2 ybl yl0 yl1 yl2 yll yr0 yr1 yr2 yrl
      have yb0 := (HBb3.out).cell (i := 0) (v := .string b.label) rfl
      have yb1 := (HBb3.out).cell (i := 1) (v := .slice aub b.uses.length cub) rfl
      have yb2 := (HBb3.out).cell (i := 2) (v := .slice adb b.decls.length cdb) rfl
      have ybl := (HBb3.out).lt
      have yl0 := (HBl3.out).cell (i := 0) (v := .string l.label) rfl
      have yl1 := (HBl3.out).cell (i := 1) (v := .slice aul l.uses.length cul) rfl
      have yl2 := (HBl3.out).cell (i := 2) (v := .slice adl l.decls.length cdl) rfl
      have yll := (HBl3.out).lt
      have yr0 := (HBr3.out).cell (i := 0) (v := .string r.label) rfl
      have yr1 := (HBr3.out).cell (i := 1) (v := .slice aur r.uses.length cur) rfl
      have yr2 := (HBr3.out).cell (i := 2) (v := .slice adr r.decls.length cdr) rfl
      have yrl := (HBr3.out).lt
      have HCL := Lib.hid (mClean_any l aul cul adl cdl w3 (HMl.out.below HW3.out) HSl.out.1)
      unfold modV at HCL
      obtain ⟨cl, hcl⟩ : ∃ c, cleanB l = c := ⟨_, rfl⟩
      have HCl := Lib.hid hcl
      rw [hcl] at HCL
      clear hcl
      cases cl with
      | false =>
        go_wp2_with (fail)
        refine HCL.out.mono ?_
        rintro e w4 ⟨rfl, hbc⟩
        have HW4 := Lib.hid (HW3.out.trans (hbc.mono HW3.out.size))
        go_wp2_with (fail)
        refine (HAW.out _).mono ?_
        rintro e wz ⟨rfl, hbz⟩
        go_wp2
        go_ret
        exact ⟨rfl, HW4.out.trans (hbz.mono HW4.out.size)⟩
      | true =>
        go_wp2_with (fail)
        refine HCL.out.mono ?_
        rintro e w4 ⟨rfl, hbc⟩
        have HBb4 := Lib.hid (HBb3.out.below hbc)
        have HBl4 := Lib.hid (HBl3.out.below hbc)
        have HBr4 := Lib.hid (HBr3.out.below hbc)
        have HW4 := Lib.hid (HW3.out.trans (hbc.mono HW3.out.size))
        clear HBb3 HBl3 HBr3 HW3
        clear hbc HCL yb0 yb1 yb2 ybl yl0 yl1 yl2 yll yr0 yr1 yr2 yrl
        have yb0 := (HBb4.out).cell (i := 0) (v := .string b.label) rfl
        have yb1 := (HBb4.out).cell (i := 1) (v := .slice aub b.uses.length cub) rfl
        have yb2 := (HBb4.out).cell (i := 2) (v := .slice adb b.decls.length cdb) rfl
        have ybl := (HBb4.out).lt
        have yl0 := (HBl4.out).cell (i := 0) (v := .string l.label) rfl
        have yl1 := (HBl4.out).cell (i := 1) (v := .slice aul l.uses.length cul) rfl
        have yl2 := (HBl4.out).cell (i := 2) (v := .slice adl l.decls.length cdl) rfl
        have yll := (HBl4.out).lt
        have yr0 := (HBr4.out).cell (i := 0) (v := .string r.label) rfl
        have yr1 := (HBr4.out).cell (i := 1) (v := .slice aur r.uses.length cur) rfl
        have yr2 := (HBr4.out).cell (i := 2) (v := .slice adr r.decls.length cdr) rfl
        have yrl := (HBr4.out).lt
        have HCL := Lib.hid (mClean_any r aur cur adr cdr w4 (HMr.out.below HW4.out) HSr.out.1)
        unfold modV at HCL
        obtain ⟨cr, hcr⟩ : ∃ c, cleanB r = c := ⟨_, rfl⟩
        have HCr := Lib.hid hcr
        rw [hcr] at HCL
        clear hcr
        cases cr with
        | false =>
          go_wp2_with (fail)
          refine HCL.out.mono ?_
          rintro e w5 ⟨rfl, hbc⟩
          have HW5 := Lib.hid (HW4.out.trans (hbc.mono HW4.out.size))
          go_wp2_with (fail)
          refine (HAW.out _).mono ?_
          rintro e wz ⟨rfl, hbz⟩
          go_wp2
          go_ret
          exact ⟨rfl, HW5.out.trans (hbz.mono HW5.out.size)⟩
        | true =>
          go_wp2_with (fail)
          refine HCL.out.mono ?_
          rintro e w5 ⟨rfl, hbc⟩
          have HBb5 := Lib.hid (HBb4.out.below hbc)
          have HBl5 := Lib.hid (HBl4.out.below hbc)
          have HBr5 := Lib.hid (HBr4.out.below hbc)
          have HW5 := Lib.hid (HW4.out.trans (hbc.mono HW4.out.size))
          clear HBb4 HBl4 HBr4 HW4
          clear hbc HCL yb0 yb1 yb2 ybl yl0 yl1 yl2 yll yr0 yr1 yr2 yrl
          have yb0 := (HBb5.out).cell (i := 0) (v := .string b.label) rfl
          have yb1 := (HBb5.out).cell (i := 1) (v := .slice aub b.uses.length cub) rfl
          have yb2 := (HBb5.out).cell (i := 2) (v := .slice adb b.decls.length cdb) rfl
          have ybl := (HBb5.out).lt
          have yl0 := (HBl5.out).cell (i := 0) (v := .string l.label) rfl
          have yl1 := (HBl5.out).cell (i := 1) (v := .slice aul l.uses.length cul) rfl
          have yl2 := (HBl5.out).cell (i := 2) (v := .slice adl l.decls.length cdl) rfl
          have yll := (HBl5.out).lt
          have yr0 := (HBr5.out).cell (i := 0) (v := .string r.label) rfl
          have yr1 := (HBr5.out).cell (i := 1) (v := .slice aur r.uses.length cur) rfl
          have yr2 := (HBr5.out).cell (i := 2) (v := .slice adr r.decls.length cdr) rfl
          have yrl := (HBr5.out).lt
          have HC := Lib.hid (mMerge_any b l r aub aul aur adb adl adr cub cul cur cdb cdl cdr [] w5 (by simp) ⟨HMb.out.below HW5.out, HSb.out.1, HSb.out.2⟩ ⟨HMl.out.below HW5.out, HSl.out.1, HSl.out.2⟩ ⟨HMr.out.below HW5.out, HSr.out.1, HSr.out.2⟩)
          unfold modV at HC
          obtain ⟨qm, hqm⟩ : ∃ q, mergeMErr b l r = q := ⟨_, rfl⟩
          obtain ⟨xm, hxm⟩ : ∃ x, mergeM b l r = x := ⟨_, rfl⟩
          have HQm := Lib.hid hqm
          have HXm := Lib.hid hxm
          clear hqm hxm
          go_wp2_with (fail)
          refine HC.out.mono ?_
          rintro e v6 ⟨aum, cum, adm, cdm, rfl, hmx, hbm⟩
          clear HC yb0 yb1 yb2 ybl yl0 yl1 yl2 yll yr0 yr1 yr2 yrl 
          rw [HQm.out, HXm.out]
          rw [HXm.out] at hmx
          unfold modV
          have hal := qalloc v6 (.cells #[.string xm.label, .slice aum xm.uses.length cum, .slice adm xm.decls.length cdm] 25)
          have hbn := qtrans hbm hal
          have HBXm := Lib.hid (CBox.new v6 25 #[.string xm.label, .slice aum xm.uses.length cum, .slice adm xm.decls.length cdm])
          have HMXm := Lib.hid (hmx.below hal)
          have HBb6 := Lib.hid (HBb5.out.below hbn)
          have HBl6 := Lib.hid (HBl5.out.below hbn)
          have HBr6 := Lib.hid (HBr5.out.below hbn)
          have HW6 := Lib.hid (HW5.out.trans (hbn.mono HW5.out.size))
          clear HBb5 HBl5 HBr5 HW5
          go_upto_region 4 with (fail)
          clear hal hbn hbm hmx
          generalize v6.alloc (.cells #[.string xm.label, .slice aum xm.uses.length cum, .slice adm xm.decls.length cdm] 25) = w6 at *
          generalize v6.heap.size = Nm at *
          by_cases h0 : qm = 0
          · have hz : (qm != 0) = false := by simp [h0]
            have h00 : mergeMErr b l r = 0 := by rw [HQm.out, h0]
            have HSXm : Hid (SmN xm) := by show SmN xm; rw [← HXm.out]; exact mergeM_sm HSb.out HSl.out HSr.out h00
            have H00 := Lib.hid h00
            clear h0 h00
            have z0 := (HBXm.out).cell (i := 0) (v := .string xm.label) rfl
            have z1 := (HBXm.out).cell (i := 1) (v := .slice aum xm.uses.length cum) rfl
            have z2 := (HBXm.out).cell (i := 2) (v := .slice adm xm.decls.length cdm) rfl
            have zl := (HBXm.out).lt
            have HCL := Lib.hid (mClean_any xm aum cum adm cdm w6 HMXm.out HSXm.out.1)
            unfold modV at HCL
            obtain ⟨cm, hcm⟩ : ∃ c, cleanB xm = c := ⟨_, rfl⟩
            have HCm := Lib.hid hcm
            rw [hcm] at HCL
            clear hcm
            cases cm with
            | false =>
              go_wp2_with (fail)
              refine HCL.out.mono ?_
              rintro e w7 ⟨rfl, hbc⟩
              have HW7 := Lib.hid (HW6.out.trans (hbc.mono HW6.out.size))
              go_wp2_with (fail)
              refine (HAW.out _).mono ?_
              rintro e wz ⟨rfl, hbz⟩
              go_wp2
              go_ret
              exact ⟨rfl, HW7.out.trans (hbz.mono HW7.out.size)⟩
            | true =>
              go_wp2_with (fail)
              refine HCL.out.mono ?_
              rintro e w7 ⟨rfl, hbc⟩
              have HBb7 := Lib.hid (HBb6.out.below hbc)
              have HBl7 := Lib.hid (HBl6.out.below hbc)
              have HBr7 := Lib.hid (HBr6.out.below hbc)
              have HW7 := Lib.hid (HW6.out.trans (hbc.mono HW6.out.size))
              have HBXm := Lib.hid (HBXm.out.below hbc)
              have HMXm := Lib.hid (HMXm.out.below hbc)
              clear HBb6 HBl6 HBr6 HW6
              clear hbc HCL z0 z1 z2 zl
              have HCX : Hid (cleanB (mergeM b l r) = true) := by show _ = true; rw [HXm.out]; exact HCm.out
              have yb0 := (HBb7.out).cell (i := 0) (v := .string b.label) rfl
              have yb1 := (HBb7.out).cell (i := 1) (v := .slice aub b.uses.length cub) rfl
              have yb2 := (HBb7.out).cell (i := 2) (v := .slice adb b.decls.length cdb) rfl
              have ybl := (HBb7.out).lt
              have yl0 := (HBl7.out).cell (i := 0) (v := .string l.label) rfl
              have yl1 := (HBl7.out).cell (i := 1) (v := .slice aul l.uses.length cul) rfl
              have yl2 := (HBl7.out).cell (i := 2) (v := .slice adl l.decls.length cdl) rfl
              have yll := (HBl7.out).lt
              have z0 := (HBXm.out).cell (i := 0) (v := .string xm.label) rfl
              have z1 := (HBXm.out).cell (i := 1) (v := .slice aum xm.uses.length cum) rfl
              have z2 := (HBXm.out).cell (i := 2) (v := .slice adm xm.decls.length cdm) rfl
              have zl := (HBXm.out).lt
              have HC := Lib.hid (mMerge_any b l xm aub aul aum adb adl adm cub cul cum cdb cdl cdm [] w7 (by simp) ⟨HMb.out.below HW7.out, HSb.out.1, HSb.out.2⟩ ⟨HMl.out.below HW7.out, HSl.out.1, HSl.out.2⟩ ⟨HMXm.out, HSXm.out.1, HSXm.out.2⟩)
              unfold modV at HC
              obtain ⟨qa, hqa⟩ : ∃ q, mergeMErr b l xm = q := ⟨_, rfl⟩
              obtain ⟨xa, hxa⟩ : ∃ x, mergeM b l xm = x := ⟨_, rfl⟩
              have HQa := Lib.hid hqa
              have HXa := Lib.hid hxa
              clear hqa hxa
              go_wp2_with (fail)
              refine HC.out.mono ?_
              rintro e v8 ⟨aua, cua, ada, cda, rfl, hmx, hbm⟩
              clear HC yb0 yb1 yb2 ybl yl0 yl1 yl2 yll z0 z1 z2 zl
              rw [HQa.out, HXa.out]
              rw [HXa.out] at hmx
              unfold modV
              have hal := qalloc v8 (.cells #[.string xa.label, .slice aua xa.uses.length cua, .slice ada xa.decls.length cda] 25)
              have hbn := qtrans hbm hal
              have HBXa := Lib.hid (CBox.new v8 25 #[.string xa.label, .slice aua xa.uses.length cua, .slice ada xa.decls.length cda])
              have HMXa := Lib.hid (hmx.below hal)
              have HBb8 := Lib.hid (HBb7.out.below hbn)
              have HBl8 := Lib.hid (HBl7.out.below hbn)
              have HBr8 := Lib.hid (HBr7.out.below hbn)
              have HW8 := Lib.hid (HW7.out.trans (hbn.mono HW7.out.size))
              have HBXm := Lib.hid (HBXm.out.below hbn)
              have HMXm := Lib.hid (HMXm.out.below hbn)
              clear HBb7 HBl7 HBr7 HW7
              go_upto_region 7 with (fail)
              clear hal hbn hbm hmx
              generalize v8.alloc (.cells #[.string xa.label, .slice aua xa.uses.length cua, .slice ada xa.decls.length cda] 25) = w8 at *
              generalize v8.heap.size = Na at *
              have yb0 := (HBb8.out).cell (i := 0) (v := .string b.label) rfl
              have yb1 := (HBb8.out).cell (i := 1) (v := .slice aub b.uses.length cub) rfl
              have yb2 := (HBb8.out).cell (i := 2) (v := .slice adb b.decls.length cdb) rfl
              have ybl := (HBb8.out).lt
              have yr0 := (HBr8.out).cell (i := 0) (v := .string r.label) rfl
              have yr1 := (HBr8.out).cell (i := 1) (v := .slice aur r.uses.length cur) rfl
              have yr2 := (HBr8.out).cell (i := 2) (v := .slice adr r.decls.length cdr) rfl
              have yrl := (HBr8.out).lt
              have z0 := (HBXm.out).cell (i := 0) (v := .string xm.label) rfl
              have z1 := (HBXm.out).cell (i := 1) (v := .slice aum xm.uses.length cum) rfl
              have z2 := (HBXm.out).cell (i := 2) (v := .slice adm xm.decls.length cdm) rfl
              have zl := (HBXm.out).lt
              have HC := Lib.hid (mMerge_any b xm r aub aum aur adb adm adr cub cum cur cdb cdm cdr [] w8 (by simp) ⟨HMb.out.below HW8.out, HSb.out.1, HSb.out.2⟩ ⟨HMXm.out, HSXm.out.1, HSXm.out.2⟩ ⟨HMr.out.below HW8.out, HSr.out.1, HSr.out.2⟩)
              unfold modV at HC
              obtain ⟨qc, hqc⟩ : ∃ q, mergeMErr b xm r = q := ⟨_, rfl⟩
              obtain ⟨xc, hxc⟩ : ∃ x, mergeM b xm r = x := ⟨_, rfl⟩
              have HQc := Lib.hid hqc
              have HXc := Lib.hid hxc
              clear hqc hxc
              go_wp2_with (fail)
              refine HC.out.mono ?_
              rintro e v9 ⟨auc, cuc, adc, cdc, rfl, hmx, hbm⟩
              clear HC yb0 yb1 yb2 ybl yr0 yr1 yr2 yrl z0 z1 z2 zl
              rw [HQc.out, HXc.out]
              rw [HXc.out] at hmx
              unfold modV
              have hal := qalloc v9 (.cells #[.string xc.label, .slice auc xc.uses.length cuc, .slice adc xc.decls.length cdc] 25)
              have hbn := qtrans hbm hal
              have HBXc := Lib.hid (CBox.new v9 25 #[.string xc.label, .slice auc xc.uses.length cuc, .slice adc xc.decls.length cdc])
              have HMXc := Lib.hid (hmx.below hal)
              have HBb9 := Lib.hid (HBb8.out.below hbn)
              have HBl9 := Lib.hid (HBl8.out.below hbn)
              have HBr9 := Lib.hid (HBr8.out.below hbn)
              have HW9 := Lib.hid (HW8.out.trans (hbn.mono HW8.out.size))
              have HBXm := Lib.hid (HBXm.out.below hbn)
              have HMXm := Lib.hid (HMXm.out.below hbn)
              have HBXa := Lib.hid (HBXa.out.below hbn)
              have HMXa := Lib.hid (HMXa.out.below hbn)
              clear HBb8 HBl8 HBr8 HW8
              go_upto_region 8 with (fail)
              clear hal hbn hbm hmx
              generalize v9.alloc (.cells #[.string xc.label, .slice auc xc.uses.length cuc, .slice adc xc.decls.length cdc] 25) = w9 at *
              generalize v9.heap.size = Nc at *
              obtain ⟨ea, fa⟩ := merge_again HCb.out HCl.out H00.out HCX.out
              obtain ⟨ec, fc⟩ := merge_again' HCb.out HCl.out HCr.out H00.out HCX.out
              rw [HXm.out] at ea fa ec fc
              have ka := HQa.out.symm.trans ea
              have kc := HQc.out.symm.trans ec
              have la := (HXa.out.symm.trans fa).symm
              have lc := (HXc.out.symm.trans fc).symm
              clear HQa HQc HXa HXc ea ec fa fc HQm HXm hz H00 HCX
              subst ka kc la lc
              have y0 := (HBXa.out).cell (i := 0) (v := .string xm.label) rfl
              have y1 := (HBXa.out).cell (i := 1) (v := .slice aua xm.uses.length cua) rfl
              have y2 := (HBXa.out).cell (i := 2) (v := .slice ada xm.decls.length cda) rfl
              have yl := (HBXa.out).lt
              have z0 := (HBXm.out).cell (i := 0) (v := .string xm.label) rfl
              have z1 := (HBXm.out).cell (i := 1) (v := .slice aum xm.uses.length cum) rfl
              have z2 := (HBXm.out).cell (i := 2) (v := .slice adm xm.decls.length cdm) rfl
              have zl := (HBXm.out).lt
              have HS9 := Lib.hid (r24Same_any xm xm aua ada aum adm cua cda cum cdm w9 HMXa.out HMXm.out (fun d hd => ⟨(HSXm.out.1.decls d hd).len, HSXm.out.2 d hd⟩) HSXm.out.1.ulen HSXm.out.1.dlen)
              unfold modV at HS9
              rw [sameM_iff.2 rfl] at HS9
              go_wp2_with (fail)
              refine HS9.out.mono ?_
              rintro e w10 ⟨rfl, hbs⟩
              have HW10 := Lib.hid (HW9.out.trans (hbs.mono HW9.out.size))
              have HBXm := Lib.hid (HBXm.out.below hbs)
              have HMXm := Lib.hid (HMXm.out.below hbs)
              have HBXc := Lib.hid (HBXc.out.below hbs)
              have HMXc := Lib.hid (HMXc.out.below hbs)
              clear HS9 hbs HW9 y0 y1 y2 yl z0 z1 z2 zl
              have y0 := (HBXc.out).cell (i := 0) (v := .string xm.label) rfl
              have y1 := (HBXc.out).cell (i := 1) (v := .slice auc xm.uses.length cuc) rfl
              have y2 := (HBXc.out).cell (i := 2) (v := .slice adc xm.decls.length cdc) rfl
              have yl := (HBXc.out).lt
              have z0 := (HBXm.out).cell (i := 0) (v := .string xm.label) rfl
              have z1 := (HBXm.out).cell (i := 1) (v := .slice aum xm.uses.length cum) rfl
              have z2 := (HBXm.out).cell (i := 2) (v := .slice adm xm.decls.length cdm) rfl
              have zl := (HBXm.out).lt
              have HS9 := Lib.hid (r24Same_any xm xm auc adc aum adm cuc cdc cum cdm w10 HMXc.out HMXm.out (fun d hd => ⟨(HSXm.out.1.decls d hd).len, HSXm.out.2 d hd⟩) HSXm.out.1.ulen HSXm.out.1.dlen)
              unfold modV at HS9
              rw [sameM_iff.2 rfl] at HS9
              go_wp2_with (fail)
              refine HS9.out.mono ?_
              rintro e w11 ⟨rfl, hbs⟩
              have HW11 := Lib.hid (HW10.out.trans (hbs.mono HW10.out.size))
              clear HS9 hbs HW10 y0 y1 y2 yl z0 z1 z2 zl
              go_wp2_with (fail)
              refine (HAW.out _).mono ?_
              rintro e wz ⟨rfl, hbz⟩
              go_wp2
              go_ret
              exact ⟨rfl, HW11.out.trans (hbz.mono HW11.out.size)⟩
          · have hz : (qm != 0) = true := by simp [h0]
            go_wp2_with (fail)
            refine (HAW.out _).mono ?_
            rintro e wz ⟨rfl, hbz⟩
            go_wp2
            go_ret
            exact ⟨rfl, HW6.out.trans (hbz.mono HW6.out.size)⟩
end Go.Proofs.YtlgnedahnaojlaaGreatDoor

