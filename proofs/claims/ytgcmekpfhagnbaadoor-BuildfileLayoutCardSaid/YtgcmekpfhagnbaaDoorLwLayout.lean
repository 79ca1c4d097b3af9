/- The law BuildfileLayout: it returns true for every slice of rules and every slice of bytes. -/
import Derived.Test.YtgcmekpfhagnbaaDoorLyA
import Derived.Test.YtgcmekpfhagnbaaDoorShB
import Derived.Test.YtgcmekpfhagnbaaDoorPrB
import Derived.Test.YtgcmekpfhagnbaaDoorLwRoundTrip
namespace Go.Proofs.YtgcmekpfhagnbaaDoor
open Go.RowKit

/-- The slice of bytes v reads as gs. -/
def Gaps (w : World) (v : Value) (gs : List Int) : Prop :=
  ∃ (a : Option Addr) (cap : Nat), v = .slice a gs.length cap ∧ gs.length ≤ cap ∧ cap ≤ 9223372036854775807 ∧ (∀ g ∈ gs, 0 ≤ g ∧ g ≤ 255) ∧
    ∀ i, i < gs.length → ∃ b o : Nat, a = some ⟨b, o, none⟩ ∧ b < w.heap.size ∧ w.cell? ⟨b, o + i, none⟩ = some (.int .u8 (gs.getD i 0))
theorem Gaps.below {w w' : World} {v : Value} {gs : List Int} (h : Gaps w v gs) (m : Below w.heap.size w w') : Gaps w' v gs := by
  obtain ⟨a, cap, e, h1, h2, h3, h4⟩ := h
  refine ⟨a, cap, e, h1, h2, h3, fun i hi => ?_⟩
  obtain ⟨b, o, ea, hb, hc⟩ := h4 i hi
  exact ⟨b, o, ea, Nat.lt_of_lt_of_le hb m.size, (m.cell (p := ⟨b, o + i, none⟩) hb).trans hc⟩
theorem tab_below {w w' : World} {n : String} {k : IntKind} {zs : List Int} {g : Nat} (h : Lib.TabIs Tryd.prog w n k zs) (hg : Tryd.prog.globalNamed n = some g) (m : Below w.heap.size w w') : Lib.TabIs Tryd.prog w' n k zs := by
  unfold Lib.TabIs World.var? at *
  rw [hg] at h ⊢
  simp only [Option.bind_some] at h ⊢
  cases hh : w.heap[g]? with
  | none => rw [hh] at h; cases h
  | some ob =>
    rw [hh] at h
    rw [(m.block g (Array.getElem?_eq_some_iff.1 hh).1).trans hh]
    exact h
/-- The strings of a new slice. -/
theorem new_strs (w : World) (l : List (List UInt8)) (hl : l.length ≤ 40000) : Strs (w.alloc (.cells (l.map fun x => Value.string ⟨x.toArray⟩).toArray 9)) (.slice (some ⟨w.heap.size, 0, none⟩) l.length l.length) (l.map bOfL) := by
  have hh := World.alloc_heap_new w (.cells (l.map fun x => Value.string ⟨x.toArray⟩).toArray 9)
  refine ⟨by simp, some ⟨w.heap.size, 0, none⟩, l.length, by simp, by simp, by unfold maxLen; omega, fun _ => ⟨w.heap.size, 0, rfl, (Array.getElem?_eq_some_iff.1 hh).1, fun j u hj => ?_⟩⟩
  have hj' : (l.map fun x => Value.string ⟨x.toArray⟩)[j]? = some u := by rw [List.map_map] at hj; exact hj
  simp only [World.cell?, hh]
  rw [Nat.zero_add]
  simpa using hj'
def gapIx (gs : List Int) (j : Nat) : Nat := (gs.getD (j % gs.length) 0).toNat % 5
def gapCells : Array Value := #[.string ⟨#[32]⟩, .string ⟨#[10]⟩, .string ⟨#[32, 32, 10, 32]⟩, .string ⟨#[32, 35, 32, 108, 105, 98, 32, 120, 32, 59, 10]⟩, .string ⟨#[10, 35, 10, 35, 59, 10]⟩]
theorem all_map (rs : List Rule) : ((allW rs).map (·.data.toList)).map bOfL = allW rs := by
  rw [List.map_map]
  conv => rhs; rw [← List.map_id (allW rs)]
  apply List.map_congr_left
  intro x _
  exact bytes_ext (bOfL_data _)
theorem text_ascii : ∀ {rs : List Rule}, (∀ r ∈ rs, GoodR r) → ∀ c ∈ textOf rs, c.toNat < 128
  | r :: rs, h, c, hc => by
    have e : textOf (r :: rs) = lineOf r ++ textOf rs := by simp [textOf]
    rw [e] at hc
    rcases List.mem_append.1 hc with hc | hc
    · rw [lineOf, join_glue (wordsR_ne r)] at hc
      have key : ∀ (l : List (List UInt8)), (∀ x ∈ l, ascW x) → ∀ c ∈ glue (seps l), c.toNat < 128 := by
        intro l
        induction l with
        | nil => intro _ c hc; simp [seps, glue] at hc
        | cons x l ih =>
          intro hl c hc
          cases l with
          | nil =>
            rw [seps, glue_cons] at hc
            rcases List.mem_append.1 hc with hc | hc
            · have := (hl x (List.mem_cons_self ..)).2 c hc; omega
            · simp [glue] at hc; rw [hc]; decide
          | cons y l =>
            rw [seps, glue_cons] at hc
            rcases List.mem_append.1 hc with hc | hc
            · have := (hl x (List.mem_cons_self ..)).2 c hc; omega
            · rcases List.mem_append.1 hc with hc | hc
              · rw [List.mem_singleton.1 hc]; decide
              · exact ih (fun z hz => hl z (List.mem_cons_of_mem _ hz)) c hc
      exact key _ (fun x hx => by
        obtain ⟨y, hy, rfl⟩ := List.mem_map.1 hx
        exact wordsR_asc (h r (List.mem_cons_self ..)) y hy) c hc
    · exact text_ascii (fun q hq => h q (List.mem_cons_of_mem _ hq)) c hc
theorem great_textL {rs : List Rule} (hg : greatB rs = false) (hc : checkErr rs = 0) : (textOf rs).length ≤ 34800 := great_text hg hc
set_option maxRecDepth 100000 in
set_option maxHeartbeats 4000000 in
theorem LLayout_any (v gv : Value) (rs : List Rule) (gs : List Int) (w : World) (hr : IsRules w v rs) (hz : ∀ r ∈ rs, Sized r) (hgp : Gaps w gv gs) (htab : Lib.TabIs Tryd.prog w "strings.asciiSpace" .u8 Lib.asciiSpaceTab) :
    Calls Tryd.prog 10 #[v, gv] w fun e w' => e = .returned (.bool true) ∧ Below w.heap.size w w' := by
  have HR := Lib.hid hr
  have HG := Lib.hid (rGreat_any v rs w hr hz)
  have HGP := Lib.hid hgp
  have HT := Lib.hid htab
  obtain ⟨a, cap, rfl, h1, h2⟩ := hr.val
  obtain ⟨ag, cg, rfl, g1, g2, hgb, _⟩ := hgp
  have HGB := Lib.hid hgb
  clear hr hz htab hgb
  cases hg : greatB rs with
  | true =>
    rw [hg] at HG
    clear hg
    go_enter Tryd.func10, Tryd.ntmps10
    go_wp2_with (first | (go_at_call 19; refine HG.out.mono ?_; rintro e w1 ⟨rfl, rfl⟩) | (go_at_call 11; refine (awake_any _).mono ?_; rintro e w1 ⟨rfl, hb1⟩))
    go_ret
    exact ⟨rfl, hb1⟩
  | false =>
    rw [hg] at HG
    by_cases hm : gs.length = 0 ∨ 10 < gs.length
    · have hmm : ((gs.length : Int) == 0) = true ∨ (((gs.length : Int) == 0) = false ∧ (10 < gs.length)) := by
        by_cases e : gs.length = 0
        · left; simp [e]
        · right; exact ⟨by rw [beq_eq_false_iff_ne]; omega, by omega⟩
      clear hm hg
      rcases hmm with q1 | ⟨q1, q2⟩ <;>
      · go_enter Tryd.func10, Tryd.ntmps10
        go_wp2_with (first | (go_at_call 19; refine HG.out.mono ?_; rintro e w1 ⟨rfl, rfl⟩) | (go_at_call 11; refine (awake_any _).mono ?_; rintro e w1 ⟨rfl, hb1⟩))
        go_ret
        exact ⟨rfl, hb1⟩
    · have hm1 : 1 ≤ gs.length := by omega
      have hm2 : gs.length ≤ 10 := by omega
      have q1 : ((gs.length : Int) == 0) = false := by rw [beq_eq_false_iff_ne]; omega
      have hq10 : ¬ 10 < gs.length := by omega
      have hd10 : decide ((10 : Int) < (gs.length : Int)) = false := decide_eq_false (by omega)
      have hsm : SmallRs rs := ⟨fun r hr => by
        obtain ⟨_, hall⟩ := greatB_small hg
        obtain ⟨h1, h2, h3, _⟩ := hall r hr
        exact ⟨by omega, fun s hs => by have := h2 s hs; omega, fun s hs => by have := h3 s hs; omega⟩⟩
      have h8 := (greatB_small hg).1
      by_cases hc : checkErr rs = 0
      · have htx := great_textL hg hc
        have hgood : ∀ r ∈ rs, GoodR r := fun r hr => ruleErr_good ((checkErr_ok hc).2 r hr)
        have hwl : (allW rs).length ≤ 360 := by
          have := all_len (rs := rs) (fun r hr => wordsR_len (ruleErr_len ((checkErr_ok hc).2 r hr)))
          have h3 : rs.length * 45 ≤ 8 * 45 := Nat.mul_le_mul_right _ h8
          omega
        have hpr : printR rs = (bOfL (textOf rs), 0) := by unfold printR; rw [if_pos hc]; rfl
        have HPR : Hid (∀ (v : Value) (W : World), IsRules W v rs → Calls Tryd.prog 20 #[v] W (PrintPost (bOfL (textOf rs), 0) W)) := fun v W h => by rw [← hpr]; exact Print_any v rs W h hsm (by omega)
        have HFD : Hid (∀ W, Below w.heap.size w W → Calls Tryd.prog 24 #[.string (bOfL (textOf rs))] W fun e w' => e = .returned (.slice (some ⟨W.heap.size, 0, none⟩) (allW rs).length (allW rs).length) ∧ Strs w' (.slice (some ⟨W.heap.size, 0, none⟩) (allW rs).length (allW rs).length) (allW rs) ∧ Below W.heap.size W w') := fun W hb => by
          have hfl : (Lib.fields (bOfL (textOf rs)).data.toList) = (allW rs).map (·.data.toList) := by rw [bOfL_data]; exact fields_text hgood
          refine (Tryd.strings_Fields _ W (by rw [bOfL_size]; omega) (by rw [bOfL_data]; intro j b hb; exact text_ascii hgood b (List.mem_of_getElem? hb)) (tab_below HT.out (by kernel_rfl : _ = some 0) hb)).mono ?_
          rintro e w' ⟨rfl, rfl⟩
          rw [hfl, List.length_map]
          refine ⟨rfl, ?_, qalloc _ _⟩
          have := new_strs W ((allW rs).map (·.data.toList)) (by rw [List.length_map]; omega)
          rw [all_map, List.length_map] at this
          exact this
        have HPL : Hid (∀ (f : Nat → Nat) (s : ByteArray), s.data.toList = firstB ++ glue (pairsOf (allW rs) f) ++ [35] → parseR s = (rs, 0, 0)) := fun f s hs => parse_layout hc f hs
        have hbig : Hid (∀ (f : Nat → Nat) (k : Nat), (glue ((pairsOf (allW rs) f).take k)).length ≤ 38400) := fun f k => by
          have h4 := glue_le 10 (ps := (pairsOf (allW rs) f).take k) (fun p hp => by
            have hp' := List.mem_of_mem_take hp
            unfold pairsOf at hp'
            obtain ⟨q, _, rfl⟩ := List.mem_map.1 hp'
            have := gapB_size (f q)
            rw [← sz] at this
            exact this)
          have h5 : ((pairsOf (allW rs) f).take k).length ≤ 360 := by rw [List.length_take]; simp [pairsOf]; omega
          have h6 : sumW (((pairsOf (allW rs) f).take k).map (·.1)) ≤ (textOf rs).length := by
            rw [← all_sum, ← pairs_map (allW rs) f, List.map_take]
            conv => rhs; rw [← List.take_append_drop k ((pairsOf (allW rs) f).map (·.1))]
            rw [sumW_app]; omega
          have h7 : ((pairsOf (allW rs) f).take k).length * 10 ≤ 360 * 10 := Nat.mul_le_mul_right _ h5
          omega
        clear hpr hc hg hm htx hgood
        generalize hws : allW rs = ws at *
        generalize bOfL (textOf rs) = tx at *
        clear hws
        go_enter Tryd.func10, Tryd.ntmps10
        go_wp2_with (go_at_call 19; refine HG.out.mono ?_; rintro e w1 ⟨rfl, rfl⟩)
        refine (HPR.out _ _ HR.out).mono ?_
        rintro e w2 ⟨rfl, hb2⟩
        go_wp2_with (fail)
        refine (HFD.out _ hb2).mono ?_
        rintro e w3 ⟨rfl, hs3, hb3⟩
        have HS3 := Lib.hid hs3
        have hB3 := qtrans hb2 hb3
        clear hs3 HFD HPR HG
        generalize w2.heap.size = F at *
        go_wp2
        go_loopw [7, 37] (fun ov iv wr => ∃ k : Nat, k ≤ ws.length ∧ iv = .int .i64 k ∧ ov = .string (bOfL (firstB ++ glue ((pairsOf ws (gapIx gs)).take k))) ∧ Below w3.heap.size w3 wr) (fun _ iv _ => ws.length - (intOf iv).toNat)
        case atStart => exact ⟨0, Nat.zero_le _, rfl, rfl, qrefl _⟩
        case round =>
          obtain ⟨k, hk, rfl, rfl, hbr⟩ := hrel
          by_cases hlt : k < ws.length
          · have hkm : k % gs.length < gs.length := Nat.mod_lt _ (by omega)
            obtain ⟨b1, o1, e1, hb1', c1⟩ := Strs.elem (HS3.out.below hbr) hlt
            cases e1
            obtain ⟨a', cap', e', _, _, _, hcg⟩ := HGP.out.below (qtrans hB3 hbr)
            cases e'
            obtain ⟨bg, og, rfl, hbg, c2⟩ := hcg _ hkm
            clear hcg
            obtain ⟨hG0, hG1⟩ := HGB.out (gs.getD (k % gs.length) 0) (by rw [List.getD_eq_getElem?_getD, List.getElem?_eq_getElem hkm]; exact List.getElem_mem hkm)
            have hszk := hbig.out (gapIx gs) k
            have hszw : (ws.getD k ByteArray.empty).size ≤ 40000 := by
              have h9 := hbig.out (gapIx gs) (k + 1)
              rw [pairs_take hlt, List.length_append, List.length_append, sz] at h9
              omega
            rw [Nat.zero_add] at c1
            have HX : Hid (bOfL (firstB ++ glue ((pairsOf ws (gapIx gs)).take k)) ++ (ws.getD k ByteArray.empty ++ gapB (gapIx gs k)) = bOfL (firstB ++ glue ((pairsOf ws (gapIx gs)).take (k + 1)))) := by
              show _ = _
              rw [bOfL_app, pairs_take hlt]
              simp
            have hcz : (bOfL (firstB ++ glue ((pairsOf ws (gapIx gs)).take k))).size ≤ 38408 := by rw [bOfL_size, List.length_append]; show 8 + _ ≤ _; omega
            obtain ⟨nx, hnx⟩ : ∃ nx, nx = bOfL (firstB ++ glue ((pairsOf ws (gapIx gs)).take (k + 1))) := ⟨_, rfl⟩
            rw [← hnx] at HX
            have HNX := Lib.hid hnx
            have hix : gapIx gs k = (gs.getD (k % gs.length) 0).toNat % 5 := rfl
            clear hnx
            generalize bOfL (firstB ++ glue ((pairsOf ws (gapIx gs)).take k)) = cu at *
            generalize ws.getD k ByteArray.empty = t at *
            generalize gapIx gs k = gx at *
            generalize gs.getD (k % gs.length) 0 = G at *
            have hG5 : G % 5 = 0 ∨ G % 5 = 1 ∨ G % 5 = 2 ∨ G % 5 = 3 ∨ G % 5 = 4 := by omega
            clear hszk
            rcases hG5 with hq | hq | hq | hq | hq
            · have HGX : Hid (gapB gx = ⟨#[32]⟩) := by
                have : gx = 0 := by rw [hix]; omega
                rw [this]; rfl
              rw [HGX.out] at HX
              clear hix
              go_wp2
              go_roundw
              case rel => exact ⟨k + 1, by omega, by go_num, by rw [← HNX.out, HX.out], qtrans hbr (qalloc _ _)⟩
              case measure => simp [intOf]; omega
            · have HGX : Hid (gapB gx = ⟨#[10]⟩) := by
                have : gx = 1 := by rw [hix]; omega
                rw [this]; rfl
              rw [HGX.out] at HX
              clear hix
              go_wp2
              go_roundw
              case rel => exact ⟨k + 1, by omega, by go_num, by rw [← HNX.out, HX.out], qtrans hbr (qalloc _ _)⟩
              case measure => simp [intOf]; omega
            · have HGX : Hid (gapB gx = ⟨#[32, 32, 10, 32]⟩) := by
                have : gx = 2 := by rw [hix]; omega
                rw [this]; rfl
              rw [HGX.out] at HX
              clear hix
              go_wp2
              go_roundw
              case rel => exact ⟨k + 1, by omega, by go_num, by rw [← HNX.out, HX.out], qtrans hbr (qalloc _ _)⟩
              case measure => simp [intOf]; omega
            · have HGX : Hid (gapB gx = ⟨#[32, 35, 32, 108, 105, 98, 32, 120, 32, 59, 10]⟩) := by
                have : gx = 3 := by rw [hix]; omega
                rw [this]; rfl
              rw [HGX.out] at HX
              clear hix
              go_wp2
              go_roundw
              case rel => exact ⟨k + 1, by omega, by go_num, by rw [← HNX.out, HX.out], qtrans hbr (qalloc _ _)⟩
              case measure => simp [intOf]; omega
            · have HGX : Hid (gapB gx = ⟨#[10, 35, 10, 35, 59, 10]⟩) := by
                have : gx = 4 := by rw [hix]; omega
                rw [this]; rfl
              rw [HGX.out] at HX
              clear hix
              go_wp2
              go_roundw
              case rel => exact ⟨k + 1, by omega, by go_num, by rw [← HNX.out, HX.out], qtrans hbr (qalloc _ _)⟩
              case measure => simp [intOf]; omega
          · obtain rfl : k = ws.length := by omega
            have HPT : Hid (∀ W, Calls Tryd.prog 12 #[.string (bOfL (firstB ++ glue ((pairsOf ws (gapIx gs)).take ws.length)) ++ ⟨#[35]⟩)] W (ParsePost (rs, 0, 0) W)) := fun W => by
              have hd : (bOfL (firstB ++ glue ((pairsOf ws (gapIx gs)).take ws.length)) ++ ⟨#[35]⟩).data.toList = firstB ++ glue (pairsOf ws (gapIx gs)) ++ [35] := by
                rw [show (pairsOf ws (gapIx gs)).take ws.length = pairsOf ws (gapIx gs) from List.take_of_length_le (by simp [pairsOf])]
                simp [bOfL_data]
              have hp := HPL.out (gapIx gs) _ hd
              rw [← hp]
              refine Parse_any _ ?_ W
              have h9 := hbig.out (gapIx gs) ws.length
              rw [show (pairsOf ws (gapIx gs)).take ws.length = pairsOf ws (gapIx gs) from List.take_of_length_le (by simp [pairsOf])] at h9
              rw [← sz, hd, List.length_append, List.length_append]
              show 8 + _ + 1 ≤ _
              omega
            have hcz : (bOfL (firstB ++ glue ((pairsOf ws (gapIx gs)).take ws.length))).size ≤ 38408 := by
              have h9 := hbig.out (gapIx gs) ws.length
              rw [bOfL_size, List.length_append]; show 8 + _ ≤ _; omega
            generalize bOfL (firstB ++ glue ((pairsOf ws (gapIx gs)).take ws.length)) = cu at *
            go_wp2_with (fail)
            refine (HPT.out _).mono ?_
            rintro e w4 ⟨v4, rfl, hr4, hb4⟩
            obtain ⟨a4, c4, rfl, -⟩ := hr4.val
            simp only at hr4
            have HR4 := Lib.hid hr4
            have hB4 := qtrans (qtrans hB3 hbr) hb4
            clear hr4
            go_wp2_with (fail)
            refine (rSame_eq _ _ rs _ HR4.out (HR.out.below hB4)).mono ?_
            rintro e w5 ⟨rfl, n, rfl⟩
            have hB5 := below_drewN hB4 n
            clear HR HR4 HPT HS3 HGP
            generalize w4.drewN n = w5 at *
            go_wp2_with (go_at_call 11; refine (awake_any _).mono ?_; rintro e w6 ⟨rfl, hb6⟩)
            go_ret
            exact ⟨rfl, qtrans hB5 hb6⟩
      · have hpr : printR rs = (⟨#[]⟩, checkErr rs) := by unfold printR; rw [if_neg hc]
        have HPR : Hid (∀ (v : Value) (W : World), IsRules W v rs → Calls Tryd.prog 20 #[v] W (PrintPost (⟨#[]⟩, checkErr rs) W)) := fun v W h => by rw [← hpr]; exact Print_any v rs W h hsm (by omega)
        generalize checkErr rs = ce at *
        have hc1 : (ce != 0) = true := by simp [hc]
        clear hpr hc hg hm
        go_enter Tryd.func10, Tryd.ntmps10
        go_wp2_with (go_at_call 19; refine HG.out.mono ?_; rintro e w1 ⟨rfl, rfl⟩)
        refine (HPR.out _ _ HR.out).mono ?_
        rintro e w2 ⟨rfl, hb2⟩
        go_wp2_with (go_at_call 11; refine (awake_any _).mono ?_; rintro e w6 ⟨rfl, hb6⟩)
        go_ret
        exact ⟨rfl, qtrans hb2 hb6⟩
end Go.Proofs.YtgcmekpfhagnbaaDoor
