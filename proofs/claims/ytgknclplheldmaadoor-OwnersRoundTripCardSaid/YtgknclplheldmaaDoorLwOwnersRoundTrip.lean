/- The law OwnersRoundTrip: it returns true for every slice of rules and every slice of bytes. -/
import Derived.Test.YtgknclplheldmaaDoorLyO
import Derived.Test.YtgknclplheldmaaDoorShF
import Derived.Test.YtgknclplheldmaaDoorPrO
namespace Go.Proofs.YtgknclplheldmaaDoor
open Go.RowKit

/-- The slice of bytes v reads as gs. -/
def Gaps (w : World) (v : Value) (gs : List Int) : Prop :=
  ∃ (a : Option Addr) (cap : Nat), v = .slice a gs.length cap ∧ gs.length ≤ cap ∧ cap ≤ 9223372036854775807 ∧ (∀ g ∈ gs, 0 ≤ g ∧ g ≤ 255) ∧
    ∀ i, i < gs.length → ∃ b o : Nat, a = some ⟨b, o, none⟩ ∧ b < w.heap.size ∧ w.cell? ⟨b, o + i, none⟩ = some (.int .u8 (gs.getD i 0))
theorem Gaps.below {w w' : World} {v : Value} {gs : List Int} (h : Gaps w v gs) (m : Below w.heap.size w w') : Gaps w' v gs := by
  obtain ⟨a, cap, e, h1, h2, h3, h4⟩ := h
  refine ⟨a, cap, e, h1, h2, h3, fun i hi => ?_⟩
  obtain ⟨b, o, ea, hb, hc⟩ := h4 i hi
  exact ⟨b, o, ea, Nat.lt_of_lt_of_le hb m.size, (m.cell (p := ⟨b, o + i, none⟩) hb).trans hc⟩
theorem tab_below {w w' : World} {n : String} {k : IntKind} {zs : List Int} {g : Nat} (h : Lib.TabIs Tryd.prog w n k zs) (hg : Tryd.prog.globalNamed n = some g) (m : Below w.heap.size w w') : Lib.TabIs Tryd.prog w' n k zs := by
  unfold Lib.TabIs World.var? at *
  rw [hg] at h ⊢
  simp only [Option.bind_some] at h ⊢
  cases hh : w.heap[g]? with
  | none => rw [hh] at h; cases h
  | some ob =>
    rw [hh] at h
    rw [(m.block g (Array.getElem?_eq_some_iff.1 hh).1).trans hh]
    exact h
/-- The strings of a new slice. -/
theorem new_strs (w : World) (l : List (List UInt8)) (hl : l.length ≤ 40000) : Strs (w.alloc (.cells (l.map fun x => Value.string ⟨x.toArray⟩).toArray 9)) (.slice (some ⟨w.heap.size, 0, none⟩) l.length l.length) (l.map bOf) := by
  have hh := World.alloc_heap_new w (.cells (l.map fun x => Value.string ⟨x.toArray⟩).toArray 9)
  refine ⟨by simp, some ⟨w.heap.size, 0, none⟩, l.length, by simp, by simp, by unfold maxLen; omega, fun _ => ⟨w.heap.size, 0, rfl, (Array.getElem?_eq_some_iff.1 hh).1, fun j u hj => ?_⟩⟩
  have hj' : (l.map fun x => Value.string ⟨x.toArray⟩)[j]? = some u := by rw [List.map_map] at hj; exact hj
  simp only [World.cell?, hh]
  rw [Nat.zero_add]
  simpa using hj'
def gapIx (gs : List Int) (j : Nat) : Nat := if gs.length = 0 then 0 else (gs.getD (j % gs.length) 0).toNat % 4
theorem all_map (rs : List ORule) : ((allB rs).map (·.data.toList)).map bOf = allB rs := by
  rw [List.map_map]
  conv => rhs; rw [← List.map_id (allB rs)]
  apply List.map_congr_left
  intro x _
  rfl
set_option maxRecDepth 100000 in
set_option maxHeartbeats 2000000 in
theorem LOwnersRoundTrip_any (v gv : Value) (rs : List ORule) (gs : List Int) (w : World) (hr : Reads w [] (rulesT rs) v) (hz : SizedR rs) (hgp : Gaps w gv gs) (htab : Lib.TabIs Tryd.prog w "strings.asciiSpace" .u8 Lib.asciiSpaceTab) :
    Calls Tryd.prog 7 #[v, gv] w fun e w' => e = .returned (.bool true) ∧ Below w.heap.size w w' := by
  have HR := Lib.hid hr
  have HG := Lib.hid (rGreat_any v rs w hr hz)
  have HGP := Lib.hid hgp
  have HT := Lib.hid htab
  obtain ⟨a, cap, rfl, h1, h2⟩ := rules_val hr
  obtain ⟨ag, cg, rfl, g1, g2, hgb, _⟩ := hgp
  have HGB := Lib.hid hgb
  clear hr hz htab hgb
  cases hg : greatR rs with
  | true =>
    rw [hg] at HG
    clear hg
    go_enter Tryd.func7, Tryd.ntmps7
    go_wp2_with (first | (go_at_call 16; refine HG.out.mono ?_; rintro e w1 ⟨rfl, rfl⟩) | (go_at_call 8; refine (awake_any _).mono ?_; rintro e w1 ⟨rfl, hb1⟩))
    go_ret
    exact ⟨rfl, hb1⟩
  | false =>
    rw [hg] at HG
    by_cases hm : 10 < gs.length
    · have hd10 : decide ((10 : Int) < (gs.length : Int)) = true := decide_eq_true (by omega)
      go_enter Tryd.func7, Tryd.ntmps7
      go_wp2_with (first | (go_at_call 16; refine HG.out.mono ?_; rintro e w1 ⟨rfl, rfl⟩) | (go_at_call 8; refine (awake_any _).mono ?_; rintro e w1 ⟨rfl, hb1⟩))
      go_ret
      exact ⟨rfl, hb1⟩
    · have hd10 : decide ((10 : Int) < (gs.length : Int)) = false := decide_eq_false (by omega)
      have hsm := greatR_SmallR hg
      have h6 := (greatR_small hg).1
      by_cases hc : ocheckErr rs = 0
      · have hgood := (ocheck_ok hc).2
        have htx : (textO rs).length ≤ 24948 := by
          have := textO_len hgood
          have h8 : rs.length * 4158 ≤ 6 * 4158 := Nat.mul_le_mul_right _ h6
          omega
        have hwl : (allB rs).length ≤ 1026 := by
          have := allB_len hgood
          have h3 : rs.length * 171 ≤ 6 * 171 := Nat.mul_le_mul_right _ h6
          omega
        have HPR : Hid (∀ (v : Value) (W : World), Reads W [] (rulesT rs) v → Calls Tryd.prog 17 #[v] W (PrintPost (bOf (textO rs), 0) W)) := fun v W h => by
          have := Print_any v rs W h hsm
          rwa [show printO rs = (bOf (textO rs), 0) by unfold printO; rw [if_pos hc]] at this
        have HFD : Hid (∀ W, Below w.heap.size w W → Calls Tryd.prog 19 #[.string (bOf (textO rs))] W fun e w' => e = .returned (.slice (some ⟨W.heap.size, 0, none⟩) (allB rs).length (allB rs).length) ∧ Strs w' (.slice (some ⟨W.heap.size, 0, none⟩) (allB rs).length (allB rs).length) (allB rs) ∧ Below W.heap.size W w') := fun W hb => by
          have hfl : (Lib.fields (bOf (textO rs)).data.toList) = (allB rs).map (·.data.toList) := by rw [data_bOf]; exact fields_text hgood
          refine (Tryd.strings_Fields _ W (by rw [← sz, data_bOf]; omega) (by rw [data_bOf]; intro j b hb; exact text_ascii hgood b (List.mem_of_getElem? hb)) (tab_below HT.out (by kernel_rfl : _ = some 0) hb)).mono ?_
          rintro e w' ⟨rfl, rfl⟩
          rw [hfl, List.length_map]
          refine ⟨rfl, ?_, qalloc _ _⟩
          have := new_strs W ((allB rs).map (·.data.toList)) (by rw [List.length_map]; omega)
          rw [all_map, List.length_map] at this
          exact this
        have HPT0 : Hid (∀ W, Calls Tryd.prog 9 #[.string (bOf (textO rs))] W (ParsePost (rs, 0, 0) W)) := fun W => by
          have := Parse_any (bOf (textO rs)) (by rw [← sz, data_bOf]; omega) W
          rwa [parse_text hc] at this
        have HPL : Hid (∀ (s : ByteArray), s.data.toList = glue (pairsOf (allB rs) (gapIx gs)) → ∀ W, Calls Tryd.prog 9 #[.string s] W (ParsePost (rs, 0, 0) W)) := fun s hs W => by
          have hl := layout_len hgood h6 (gapIx gs) (allB rs).length
          rw [show (pairsOf (allB rs) (gapIx gs)).take (allB rs).length = pairsOf (allB rs) (gapIx gs) from List.take_of_length_le (by simp [pairsOf])] at hl
          have := Parse_any s (by rw [← sz, hs]; omega) W
          rwa [parse_layout hc (gapIx gs) hs] at this
        have hbig : Hid (∀ (k : Nat), (glue ((pairsOf (allB rs) (gapIx gs)).take k)).length ≤ 37260) := fun k => layout_len hgood h6 (gapIx gs) k
        clear hc hg hm htx hgood hsm
        generalize allB rs = ws at *
        generalize bOf (textO rs) = tx at *
        go_enter Tryd.func7, Tryd.ntmps7
        go_wp2_with (fail)
        refine HG.out.mono ?_
        rintro e w1 ⟨rfl, rfl⟩
        go_wp2_with (fail)
        refine (HPR.out _ _ HR.out).mono ?_
        rintro e w2 ⟨rfl, hb2⟩
        go_wp2_with (fail)
        refine (HFD.out _ hb2).mono ?_
        rintro e w3 ⟨rfl, hs3, hb3⟩
        have HS3 := Lib.hid hs3
        have hB3 := qtrans hb2 hb3
        clear hs3 HFD HPR HG
        generalize w2.heap.size = F at *
        go_wp2
        go_loopw [7, 40] (fun ov iv wr => ∃ (k : Nat) (x : ByteArray), k ≤ ws.length ∧ iv = .int .i64 k ∧ ov = .string x ∧ Hid (x.data.toList = glue ((pairsOf ws (gapIx gs)).take k)) ∧ Below w3.heap.size w3 wr) (fun _ iv _ => ws.length - (intOf iv).toNat)
        case atStart => exact ⟨0, _, Nat.zero_le _, rfl, rfl, rfl, qrefl _⟩
        case round =>
          obtain ⟨k, x, hk, rfl, rfl, HX, hbr⟩ := hrel
          have hxz : x.size ≤ 37260 := by rw [← sz, HX.out]; exact hbig.out k
          by_cases hlt : k < ws.length
          · obtain ⟨b1, o1, e1, hb1', c1⟩ := Strs.elem (HS3.out.below hbr) hlt
            cases e1
            rw [Nat.zero_add] at c1
            have HPK := Lib.hid (pairs_take (f := gapIx gs) hlt)
            have hszw : (ws.getD k ByteArray.empty).size ≤ 40000 := by
              have h9 := hbig.out (k + 1)
              rw [HPK.out, List.length_append, List.length_append, sz] at h9
              omega
            have HX2 : Hid (∀ y : ByteArray, y.data.toList = (gapB (gapIx gs k)).data.toList → (x ++ (ws.getD k ByteArray.empty ++ y)).data.toList = glue ((pairsOf ws (gapIx gs)).take (k + 1))) := fun y hy => by
              rw [HPK.out, ByteArray.data_append, ByteArray.data_append, Array.toList_append, Array.toList_append, HX.out, hy]
            clear HPK
            generalize ws.getD k ByteArray.empty = t at *
            by_cases hg0 : gs.length = 0
            · have hgz : decide (0 < (gs.length : Int)) = false := decide_eq_false (by omega)
              have hgz' : ¬ 0 < gs.length := by omega
              have HGX : Hid (gapB (gapIx gs k) = ⟨#[32]⟩) := by show _ = _; unfold gapIx; rw [if_pos hg0]; rfl
              rw [HGX.out] at HX2
              clear hg0
              go_wp2
              go_roundw
              case rel => exact ⟨k + 1, _, by omega, by go_num, rfl, HX2.out _ rfl, qtrans hbr (qalloc _ _)⟩
              case measure => simp [intOf]; omega
            · have hkm : k % gs.length < gs.length := Nat.mod_lt _ (by omega)
              have hgz : decide (0 < (gs.length : Int)) = true := decide_eq_true (by omega)
              have hgz' : 0 < gs.length := by omega
              obtain ⟨a', cap', e', _, _, _, hcg⟩ := HGP.out.below (qtrans hB3 hbr)
              cases e'
              obtain ⟨bg, og, rfl, hbg, c2⟩ := hcg _ hkm
              clear hcg
              obtain ⟨hG0, hG1⟩ := HGB.out (gs.getD (k % gs.length) 0) (by rw [List.getD_eq_getElem?_getD, List.getElem?_eq_getElem hkm]; exact List.getElem_mem hkm)
              have hix : gapIx gs k = (gs.getD (k % gs.length) 0).toNat % 4 := by unfold gapIx; rw [if_neg hg0]
              generalize gapIx gs k = gx at *
              generalize gs.getD (k % gs.length) 0 = G at *
              have hG4 : G % 4 = 0 ∨ G % 4 = 1 ∨ G % 4 = 2 ∨ G % 4 = 3 := by omega
              clear hg0
              rcases hG4 with hq | hq | hq | hq
              · have HGX : Hid (gapB gx = ⟨#[32]⟩) := by
                  have : gx = 0 := by rw [hix]; omega
                  rw [this]; rfl
                rw [HGX.out] at HX2
                clear hix
                go_wp2
                go_roundw
                case rel => exact ⟨k + 1, _, by omega, by go_num, rfl, HX2.out _ rfl, qtrans hbr (qalloc _ _)⟩
                case measure => simp [intOf]; omega
              · have HGX : Hid (gapB gx = ⟨#[10, 10]⟩) := by
                  have : gx = 1 := by rw [hix]; omega
                  rw [this]; rfl
                rw [HGX.out] at HX2
                clear hix
                go_wp2
                go_roundw
                case rel => exact ⟨k + 1, _, by omega, by go_num, rfl, HX2.out _ rfl, qtrans hbr (qalloc _ _)⟩
                case measure => simp [intOf]; omega
              · have HGX : Hid (gapB gx = ⟨#[32, 35, 32, 103, 114, 111, 117, 112, 32, 120, 32, 59, 10]⟩) := by
                  have : gx = 2 := by rw [hix]; omega
                  rw [this]; rfl
                rw [HGX.out] at HX2
                clear hix
                go_wp2
                go_roundw
                case rel => exact ⟨k + 1, _, by omega, by go_num, rfl, HX2.out _ rfl, qtrans hbr (qalloc _ _)⟩
                case measure => simp [intOf]; omega
              · have HGX : Hid (gapB gx = ⟨#[32, 32, 10, 35, 10]⟩) := by
                  have : gx = 3 := by rw [hix]; omega
                  rw [this]; rfl
                rw [HGX.out] at HX2
                clear hix
                go_wp2
                go_roundw
                case rel => exact ⟨k + 1, _, by omega, by go_num, rfl, HX2.out _ rfl, qtrans hbr (qalloc _ _)⟩
                case measure => simp [intOf]; omega
          · obtain rfl : k = ws.length := by omega
            have HPW := Lib.hid (HPL.out x (by rw [HX.out, show (pairsOf ws (gapIx gs)).take ws.length = pairsOf ws (gapIx gs) from List.take_of_length_le (by simp [pairsOf])]))
            clear HPL HX
            go_wp2_with (fail)
            refine (HPT0.out _).mono ?_
            rintro e w4 ⟨v4, rfl, hr4, hb4⟩
            simp only [] at hr4
            obtain ⟨a4, c4, rfl, -⟩ := rules_val hr4
            have HR4 := Lib.hid hr4
            clear hr4
            go_wp2_with (fail)
            refine (HPW.out _).mono ?_
            rintro e w5 ⟨v5, rfl, hr5, hb5⟩
            simp only [] at hr5
            obtain ⟨a5, c5, rfl, -⟩ := rules_val hr5
            have HR5 := Lib.hid hr5
            have hB5 := qtrans (qtrans hB3 hbr) (qtrans hb4 hb5)
            have HR4' := Lib.hid (HR4.out.below hb5)
            have HR0 := Lib.hid (HR.out.below hB5)
            clear hr5 HR4 HPT0 HPW HS3 HGP HR
            go_wp2_with (fail)
            refine (rSame_eq _ _ rs _ HR4'.out HR0.out).mono ?_
            rintro e w6 ⟨rfl, n, rfl⟩
            have hB6 := below_drewN hB5 n
            have HR5' := Lib.hid (HR5.out.drewN n)
            have HR0' := Lib.hid (HR0.out.drewN n)
            clear HR4' HR0 HR5
            generalize w5.drewN n = w6 at *
            go_wp2_with (fail)
            refine (rSame_eq _ _ rs _ HR5'.out HR0'.out).mono ?_
            rintro e w7 ⟨rfl, n', rfl⟩
            have hB7 := below_drewN hB6 n'
            clear HR5' HR0'
            generalize w6.drewN n' = w7 at *
            go_wp2_with (go_at_call 8; refine (awake_any _).mono ?_; rintro e w8 ⟨rfl, hb8⟩)
            go_ret
            exact ⟨rfl, qtrans hB7 hb8⟩
      · have HPR : Hid (∀ (v : Value) (W : World), Reads W [] (rulesT rs) v → Calls Tryd.prog 17 #[v] W (PrintPost (⟨#[]⟩, ocheckErr rs) W)) := fun v W h => by
          have := Print_any v rs W h hsm
          rwa [show printO rs = (⟨#[]⟩, ocheckErr rs) by unfold printO; rw [if_neg hc]] at this
        generalize ocheckErr rs = ce at *
        have hc1 : (ce != 0) = true := by simp [hc]
        clear hc hg hm
        go_enter Tryd.func7, Tryd.ntmps7
        go_wp2_with (fail)
        refine HG.out.mono ?_
        rintro e w1 ⟨rfl, rfl⟩
        go_wp2_with (fail)
        refine (HPR.out _ _ HR.out).mono ?_
        rintro e w2 ⟨rfl, hb2⟩
        go_wp2_with (go_at_call 8; refine (awake_any _).mono ?_; rintro e w6 ⟨rfl, hb6⟩)
        go_ret
        exact ⟨rfl, qtrans hb2 hb6⟩
end Go.Proofs.YtgknclplheldmaaDoor
