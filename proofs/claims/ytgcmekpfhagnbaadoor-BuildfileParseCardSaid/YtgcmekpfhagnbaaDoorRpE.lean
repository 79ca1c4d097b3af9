/- The reference's rule. -/
import Derived.Test.YtgcmekpfhagnbaaDoorRpD
namespace Go.Proofs.YtgcmekpfhagnbaaDoor
open Go.RowKit

/-- The box of words as the walk loads it, and that nothing below has been turned. -/
def TS (w0 : World) (B : Nat) (v : Value) (bad : Bool) (W : World) : Prop := (W.cell? ⟨B, 0, none⟩ = some v ∧ W.cell? ⟨B, 1, none⟩ = some (.bool bad)) ∧ Hid (Below w0.heap.size w0 W)
theorem TS.keep {w0 : World} {B : Nat} {v : Value} {bad : Bool} {W W' : World} (h : TS w0 B v bad W) (hb : Below W.heap.size W W') : TS w0 B v bad W' :=
  ⟨⟨(hb.cell (p := ⟨B, 0, none⟩) (lt_of_cell h.1.1)).trans h.1.1, (hb.cell (p := ⟨B, 1, none⟩) (lt_of_cell h.1.2)).trans h.1.2⟩, qtrans h.2.out hb⟩

set_option maxRecDepth 100000 in
set_option maxHeartbeats 2000000 in
theorem rruleT_any (v : Value) (ws : Words) (w : World) (hv : IsWords w v ws) (hlow : ∀ b, v.ownBlock = some b → b < w.heap.size) (hs : SmallW ws) :
    Calls Tryd.prog 33 #[.agg #[v, .bool false]] w (RulePost ws v w) := by
  have HST := Lib.hid (RSt.start w v ws hv hlow)
  obtain ⟨a, cap, rfl⟩ := words_val hv
  clear hv hlow
  obtain ⟨s1, s2, s3, s4, s5, s6, s7, s8, -⟩ := ruleT_small hs
  go_enter Tryd.func33, Tryd.ntmps33
  go_upto_region 2 with (fail)
  generalize (((w.alloc (.cells #[.slice a ws.length cap, .bool false] 57)).alloc (.cells #[.int .i64 0, .string ⟨#[]⟩, .slice none 0 0, .slice none 0 0] 42)).alloc (.cells #[.slice none 0 0, .bool false] 57)).alloc (.cells #[.int .i64 1, .string ⟨#[]⟩, .slice none 0 0, .slice none 0 0] 42) = W0 at *
  obtain ⟨hB, q0, q1, -⟩ := HST.out.tb.cells
  have HI := Lib.hid (ris_b _ ws false b_test W0 HST.out.ww hs.len)
  have hkd : Hid (kdT ws = if isT ws false b_test then 2 else 1) := rfl
  generalize isT ws false b_test = tt at HI hkd
  go_upto_if 7 with (go_at_call 60; refine HI.out.mono ?_; rintro e w1 ⟨rfl, hb1⟩)
  have HS1 := Lib.hid (HST.out.below hb1)
  obtain ⟨hR, k0, -, -, -, fz⟩ := HS1.out.rb.cells
  have f0 := fz 0
  clear fz
  go_cut [] (fun wx => RAt w (.slice a ws.length cap) ws false (kdT ws) ⟨#[]⟩ [] [] wx)
  case first =>
    cases tt with
    | true =>
      go_wp2
      go_meet
      case rel => exact ⟨_, _, _, by rw [hkd.out]; exact HS1.out.setKind 2⟩
    | false =>
      go_wp2
      go_meet
      case rel => exact ⟨_, _, _, by rw [hkd.out]; exact HS1.out⟩
  case rest =>
    clear HI hkd HST HS1 hb1 q0 q1 hB hR k0 f0
    clear w1 W0
    obtain ⟨v, dv, vv, hst⟩ := hcut
    obtain ⟨av, cv, rfl⟩ := words_val hst.ww
    have HST := Lib.hid hst
    clear hst
    go_upto_region 4 with (fail)
    go_cut [] (fun wx => RAt w (.slice a ws.length cap) (n1T ws).1 (n1T ws).2 (kdT ws) ⟨#[]⟩ [] [] wx)
    case first =>
      obtain ⟨hB, q0, q1, -⟩ := HST.out.tb.cells
      have hS0 : TS wc w.heap.size (.slice av ws.length cv) false wc.drew := ⟨⟨q0, q1⟩, below_drew (qrefl _)⟩
      have HN := Lib.hid (fun (W : World) (hw : IsWords W (.slice av ws.length cv) ws) => rnext_any _ ws false (isT ws false b_lib || isT ws false b_test) W hw hs.len)
      have HL := Lib.hid (fun (W : World) (hw : IsWords W (.slice av ws.length cv) ws) => ris_b _ ws false b_lib W hw hs.len)
      have HT := Lib.hid (fun (W : World) (hw : IsWords W (.slice av ws.length cv) ws) => ris_b _ ws false b_test W hw hs.len)
      have hn1 : Hid (n1T ws = nextT ws false (isT ws false b_lib || isT ws false b_test)) := rfl
      generalize isT ws false b_lib = ll at HN HL hn1
      generalize isT ws false b_test = tt at HN HT hn1
      generalize nextT ws false (ll || tt) = nx at HN hn1
      obtain ⟨nw, nb⟩ := nx
      clear q0 q1 hB
      cases ll <;>
      · refine wp_region_noPanic (region_lexT (fun W => (W.cell? ⟨w.heap.size, 0, none⟩ = some (.slice av ws.length cv) ∧ W.cell? ⟨w.heap.size, 1, none⟩ = some (.bool false)) ∧ Hid (Below wc.heap.size wc W)) [true, true, false, true, true, false, true] mixedK (by kernel_rfl) (fun _ _ _ _ _ h => h) hS0 (fun hHeld => ?_))
        clear hS0
        iterate 2 (first | (refine lexT_skip (by rfl) ?_; (try simp only [Act.put, List.setIfInBounds_toArray, List.set_cons_zero, List.set_cons_succ])) | (refine lexT_take (v := ?_) (by rfl) ?_ ?_; rotate_left; (focus (intro wq hSw; (try dsimp only at hSw); go_simp; (try with_reducible rfl))); (try simp only [Act.put, List.setIfInBounds_toArray, List.set_cons_zero, List.set_cons_succ])))
        ((refine lexT_do (by rfl) (fun K hK => ?_); go_simp); refine (HL.out _ (IsRow.below HST.out.ww hHeld.2.out)).mono ?_; rintro e w2 ⟨rfl, hb2⟩; (try go_simp); have hHeld' := TS.keep hHeld hb2; clear hHeld; refine hK.out _ _ hHeld' (fun hHeld => ?_); clear hK K hHeld' hb2; (try simp only [Act.put, List.setIfInBounds_toArray, List.set_cons_zero, List.set_cons_succ]))
        iterate 2 (first | (refine lexT_skip (by rfl) ?_; (try simp only [Act.put, List.setIfInBounds_toArray, List.set_cons_zero, List.set_cons_succ])) | (refine lexT_take (v := ?_) (by rfl) ?_ ?_; rotate_left; (focus (intro wq hSw; (try dsimp only at hSw); go_simp; (try with_reducible rfl))); (try simp only [Act.put, List.setIfInBounds_toArray, List.set_cons_zero, List.set_cons_succ])))
        (first | (refine lexT_skip (by rfl) ?_; (try simp only [Act.put, List.setIfInBounds_toArray, List.set_cons_zero, List.set_cons_succ])) | ((refine lexT_do (by rfl) (fun K hK => ?_); go_simp); refine (HT.out _ (IsRow.below HST.out.ww hHeld.2.out)).mono ?_; rintro e w2 ⟨rfl, hb2⟩; (try go_simp); have hHeld' := TS.keep hHeld hb2; clear hHeld; refine hK.out _ _ hHeld' (fun hHeld => ?_); clear hK K hHeld' hb2; (try simp only [Act.put, List.setIfInBounds_toArray, List.set_cons_zero, List.set_cons_succ])))
        iterate 1 (first | (refine lexT_skip (by rfl) ?_; (try simp only [Act.put, List.setIfInBounds_toArray, List.set_cons_zero, List.set_cons_succ])) | (refine lexT_take (v := ?_) (by rfl) ?_ ?_; rotate_left; (focus (intro wq hSw; (try dsimp only at hSw); go_simp; (try with_reducible rfl))); (try simp only [Act.put, List.setIfInBounds_toArray, List.set_cons_zero, List.set_cons_succ])))
        refine lexT_end ?_
        have HS2 := Lib.hid (HST.out.below hHeld.2.out)
        clear hHeld
        go_wp2_with (fail)
        refine (HN.out _ HS2.out.ww).mono ?_
        rintro e w3 ⟨v3, rfl, hw3, ho3, hb3⟩
        obtain ⟨a3, c3, rfl⟩ := words_val hw3
        obtain ⟨hB3, c0, c1, fz⟩ := (HS2.out.tb.below hb3).cells
        have g0 := fz 0
        have g1 := fz 1
        clear fz
        go_wp2_with (fail)
        refine NoPanic.normal ?_
        go_wp2
        go_meet
        case rel => exact ⟨_, _, _, by rw [hn1.out]; exact (HS2.out.below hb3).setT nb hw3 ho3⟩
    case rest =>
      clear HST
      obtain ⟨v, dv, vv, hst⟩ := hcut
      obtain ⟨av, cv, rfl⟩ := words_val hst.ww
      have HST := Lib.hid hst
      obtain ⟨hB, q0, q1, -⟩ := hst.tb.cells
      clear hst
      have HW : Hid (∀ W, IsWords W (.slice av (n1T ws).1.length cv) (n1T ws).1 → Calls Tryd.prog 62 #[.agg #[.slice av (n1T ws).1.length cv, .bool (n1T ws).2]] W fun e w' => e = .returned (.string (nmT ws)) ∧ Below W.heap.size W w') := fun W hw => rwordT_b _ _ _ W hw s1.len
      have HN := Lib.hid (fun (W : World) (hw : IsWords W (.slice av (n1T ws).1.length cv) (n1T ws).1) => rnext_any _ (n1T ws).1 (n1T ws).2 (freeNameS (nmT ws)) W hw s1.len)
      have hn2 : Hid (n2T ws = nextT (n1T ws).1 (n1T ws).2 (freeNameS (nmT ws))) := rfl
      generalize nextT (n1T ws).1 (n1T ws).2 (freeNameS (nmT ws)) = nx at HN hn2
      generalize n1T ws = n1 at *
      obtain ⟨w1s, b1⟩ := n1
      simp only at s1
      go_wp2_with (fail)
      refine (HW.out _ HST.out.ww).mono ?_
      rintro e w2 ⟨rfl, hb2⟩
      have HS2 := Lib.hid (HST.out.below hb2)
      clear HST q0 q1 hB HW
      obtain ⟨hR, -, k1, -, -, fz⟩ := HS2.out.rb.cells
      have f1 := fz 1
      clear fz
      go_upto_region 6 with (fail)
      have HS3 := Lib.hid (HS2.out.setName (nmT ws))
      clear HS2 hR k1 f1 hb2
      generalize w2.setCell ⟨w.heap.size + 1 + 1 + 1, 1, none⟩ (.string (nmT ws)) = W3 at *
      go_cut [] (fun wx => RAt w (.slice a ws.length cap) (n2T ws).1 (n2T ws).2 (kdT ws) (nmT ws) [] [] wx)
      case first =>
        obtain ⟨hB, q0, q1, -⟩ := HS3.out.tb.cells
        obtain ⟨hR, -, k1, -, -, -⟩ := HS3.out.rb.cells
        have hff : freeNameS (nmT ws) = (nameS (nmT ws) && !reservedS (nmT ws)) := rfl
        have HA := Lib.hid (fun (W : World) => rName_any (nmT ws) W s6)
        have HR := Lib.hid (fun (W : World) => rreserved_any (nmT ws) W)
        rw [hff] at HN
        clear hff
        generalize nameS (nmT ws) = p at HA HN
        generalize reservedS (nmT ws) = q at HR HN
        generalize nmT ws = nm at *
        obtain ⟨nw, nb⟩ := nx
        cases p <;>
        · refine wp_region_noPanic (region_lexT (fun W => ((W.cell? ⟨w.heap.size, 0, none⟩ = some (.slice av w1s.length cv) ∧ W.cell? ⟨w.heap.size, 1, none⟩ = some (.bool b1)) ∧ Hid (Below W3.heap.size W3 W)) ∧ W.cell? ⟨w.heap.size + 1 + 1 + 1, 1, none⟩ = some (.string nm)) [true, true, true, false, true, true, true, false, true, true] mixedK (by kernel_rfl) (fun _ _ _ _ _ h => h) ⟨⟨⟨q0, q1⟩, below_drew (qrefl _)⟩, k1⟩ (fun hHeld => ?_))
          iterate 3 (first | (refine lexT_skip (by rfl) ?_; (try simp only [Act.put, List.setIfInBounds_toArray, List.set_cons_zero, List.set_cons_succ])) | (refine lexT_take (v := ?_) (by rfl) ?_ ?_; rotate_left; (focus (intro wq hSw; (try dsimp only at hSw); go_simp; (try with_reducible rfl))); (try simp only [Act.put, List.setIfInBounds_toArray, List.set_cons_zero, List.set_cons_succ])))
          ((refine lexT_do (by rfl) (fun K hK => ?_); go_simp); refine (HA.out _).mono ?_; rintro e w2 ⟨rfl, rfl⟩; (try go_simp); refine hK.out _ _ hHeld (fun _ => ?_); clear hK K; (try simp only [Act.put, List.setIfInBounds_toArray, List.set_cons_zero, List.set_cons_succ]))
          iterate 3 (first | (refine lexT_skip (by rfl) ?_; (try simp only [Act.put, List.setIfInBounds_toArray, List.set_cons_zero, List.set_cons_succ])) | (refine lexT_take (v := ?_) (by rfl) ?_ ?_; rotate_left; (focus (intro wq hSw; (try dsimp only at hSw); go_simp; (try with_reducible rfl))); (try simp only [Act.put, List.setIfInBounds_toArray, List.set_cons_zero, List.set_cons_succ])))
          (first | (refine lexT_skip (by rfl) ?_; (try simp only [Act.put, List.setIfInBounds_toArray, List.set_cons_zero, List.set_cons_succ])) | ((refine lexT_do (by rfl) (fun K hK => ?_); go_simp); refine (HR.out _).mono ?_; rintro e w2 ⟨rfl, rfl⟩; (try go_simp); refine hK.out _ _ hHeld (fun _ => ?_); clear hK K; (try simp only [Act.put, List.setIfInBounds_toArray, List.set_cons_zero, List.set_cons_succ])))
          iterate 2 (first | (refine lexT_skip (by rfl) ?_; (try simp only [Act.put, List.setIfInBounds_toArray, List.set_cons_zero, List.set_cons_succ])) | (refine lexT_take (v := ?_) (by rfl) ?_ ?_; rotate_left; (focus (intro wq hSw; (try dsimp only at hSw); go_simp; (try with_reducible rfl))); (try simp only [Act.put, List.setIfInBounds_toArray, List.set_cons_zero, List.set_cons_succ])))
          refine lexT_end ?_
          have HS4 := Lib.hid (HS3.out.below hHeld.1.2.out)
          clear hHeld q0 q1 k1 hB hR HS3 HA HR
          generalize W3.drew = W4 at *
          go_wp2_with (fail)
          refine (HN.out _ HS4.out.ww).mono ?_
          rintro e w5 ⟨v3, rfl, hw3, ho3, hb3⟩
          obtain ⟨a3, c3, rfl⟩ := words_val hw3
          obtain ⟨hB3, c0, c1, fz⟩ := (HS4.out.tb.below hb3).cells
          have g0 := fz 0
          have g1 := fz 1
          clear fz
          go_wp2_with (fail)
          refine NoPanic.normal ?_
          go_wp2
          go_meet
          case rel => exact ⟨_, _, _, by rw [hn2.out]; exact (HS4.out.below hb3).setT nb hw3 ho3⟩
      case rest =>
        obtain ⟨v, dv, vv, hst⟩ := hcut
        obtain ⟨av, cv, rfl⟩ := words_val hst.ww
        have HST := Lib.hid hst
        obtain ⟨hB, q0, q1, -⟩ := hst.tb.cells
        clear hst
        have HI := Lib.hid (ris_b _ (n2T ws).1 (n2T ws).2 bb_deps _ HST.out.ww s2.len)
        have hd : Hid (dT ws = partT bb_deps freeLabelS false (n2T ws)) := rfl
        go_upto_if 32 with (go_at_call 60; refine HI.out.mono ?_; rintro e w1 ⟨rfl, hb1⟩)
        have HS1 := Lib.hid (HST.out.below hb1)
        clear HST q0 q1 hB HI hb1
        obtain ⟨hB, q0, q1, -⟩ := HS1.out.tb.cells
        go_cut [] (fun wx => RAt w (.slice a ws.length cap) (dT ws).2.1 (dT ws).2.2 (kdT ws) (nmT ws) (dT ws).1 [] wx)
        case first =>
          cases ht : isT (n2T ws).1 (n2T ws).2 bb_deps with
          | true =>
            obtain ⟨hbf, x, r, hxr, hnx⟩ := isT_next ht
            have hdT : Hid (dT ws = loopL freeLabelS false (r.length + 2) true r false []) := by show _ = _; rw [hd.out, partT, if_pos ht, hnx]
            have HN := Lib.hid (fun (W : World) (hw : IsWords W (.slice av (n2T ws).1.length cv) (n2T ws).1) => rnext_any _ (n2T ws).1 (n2T ws).2 true W hw s2.len)
            rw [hnx] at HN
            have hsr : SmallW r := by have := nextT_small s2 (n2T ws).2 true; rw [hnx] at this; exact this
            clear ht hnx hxr hbf
            go_wp2_with (fail)
            refine (HN.out _ HS1.out.ww).mono ?_
            rintro e w2 ⟨v2, rfl, hw2, ho2, hb2⟩
            obtain ⟨a2, c2, rfl⟩ := words_val hw2
            have HW2 := Lib.hid hw2
            clear hw2
            have hlo : ∀ b, (Value.slice a2 r.length c2).ownBlock = some b → b < w2.heap.size := fun b hb => by have := HS1.out.low b (HS1.out.o ▸ ho2 ▸ hb); have := HS1.out.z; have := hb2.size; omega
            have HLO := Lib.hid hlo
            clear hlo
            go_wp2_with (fail)
            refine (rlist_false _ r _ HW2.out HLO.out hsr).mono ?_
            rintro e w3 ⟨lv, v3, rfl, hs3, ho3l, hw3, ho3, hb3⟩
            obtain ⟨a3, c3, rfl⟩ := words_val hw3
            obtain ⟨al, cl, rfl⟩ := hs3.val
            have HS3 := Lib.hid (HS1.out.below (qtrans hb2 hb3))
            have HS3s := Lib.hid hs3
            have HS3o : Hid (OwnStr w.heap.size w3 _) := ho3l.lower (by have := HS1.out.z; have := hb2.size; omega)
            have HS3w := Lib.hid hw3
            have HS3b := Lib.hid (ho3.trans ho2)
            clear HS1 q0 q1 hB hs3 ho3l hw3 ho3 ho2 hb2 hb3 HN HW2 HLO
            obtain ⟨hB, q0, q1, fz⟩ := HS3.out.tb.cells
            have f0 := fz 0
            have f1 := fz 1
            clear fz
            obtain ⟨hR, -, -, k2, k3, fz⟩ := HS3.out.rb.cells
            have f2 := fz 2
            clear fz
            go_wp2
            go_meet
            case rel => exact ⟨_, _, _, by rw [hdT.out]; exact HS3.out.setDT ⟨HS3s.out, HS3o.out⟩ _ HS3w.out HS3b.out⟩
          | false =>
            have hdT : Hid (dT ws = ([], (n2T ws).1, (n2T ws).2)) := by show _ = _; rw [hd.out, partT, if_neg (by rw [ht]; simp)]
            clear ht
            go_wp2
            go_meet
            case rel => exact ⟨_, _, _, by rw [hdT.out]; exact HS1.out⟩
        case rest =>
          obtain ⟨v, dv, vv, hst⟩ := hcut
          obtain ⟨av, cv, rfl⟩ := words_val hst.ww
          have HST := Lib.hid hst
          obtain ⟨hB, q0, q1, -⟩ := hst.tb.cells
          clear hst
          have HI := Lib.hid (ris_b _ (dT ws).2.1 (dT ws).2.2 bb_visible _ HST.out.ww s3.len)
          have hd : Hid (vT ws = partT bb_visible viewerS true (dT ws).2) := rfl
          go_upto_if 41 with (go_at_call 60; refine HI.out.mono ?_; rintro e w1 ⟨rfl, hb1⟩)
          have HS1 := Lib.hid (HST.out.below hb1)
          clear HST q0 q1 hB HI hb1
          obtain ⟨hB, q0, q1, -⟩ := HS1.out.tb.cells
          go_cut [] (fun wx => RAt w (.slice a ws.length cap) (vT ws).2.1 (vT ws).2.2 (kdT ws) (nmT ws) (dT ws).1 (vT ws).1 wx)
          case first =>
            cases ht : isT (dT ws).2.1 (dT ws).2.2 bb_visible with
            | true =>
              obtain ⟨hbf, x, r, hxr, hnx⟩ := isT_next ht
              have hdT : Hid (vT ws = loopL viewerS true (r.length + 2) true r false []) := by show _ = _; rw [hd.out, partT, if_pos ht, hnx]
              have HN := Lib.hid (fun (W : World) (hw : IsWords W (.slice av (dT ws).2.1.length cv) (dT ws).2.1) => rnext_any _ (dT ws).2.1 (dT ws).2.2 true W hw s3.len)
              rw [hnx] at HN
              have hsr : SmallW r := by have := nextT_small s3 (dT ws).2.2 true; rw [hnx] at this; exact this
              clear ht hnx hxr hbf
              go_wp2_with (fail)
              refine (HN.out _ HS1.out.ww).mono ?_
              rintro e w2 ⟨v2, rfl, hw2, ho2, hb2⟩
              obtain ⟨a2, c2, rfl⟩ := words_val hw2
              have HW2 := Lib.hid hw2
              clear hw2
              have hlo : ∀ b, (Value.slice a2 r.length c2).ownBlock = some b → b < w2.heap.size := fun b hb => by have := HS1.out.low b (HS1.out.o ▸ ho2 ▸ hb); have := HS1.out.z; have := hb2.size; omega
              have HLO := Lib.hid hlo
              clear hlo
              go_wp2_with (fail)
              refine (rlist_true _ r _ HW2.out HLO.out hsr).mono ?_
              rintro e w3 ⟨lv, v3, rfl, hs3, ho3l, hw3, ho3, hb3⟩
              obtain ⟨a3, c3, rfl⟩ := words_val hw3
              obtain ⟨al, cl, rfl⟩ := hs3.val
              have HS3 := Lib.hid (HS1.out.below (qtrans hb2 hb3))
              have HS3s := Lib.hid hs3
              have HS3o : Hid (OwnStr w.heap.size w3 _) := ho3l.lower (by have := HS1.out.z; have := hb2.size; omega)
              have HS3w := Lib.hid hw3
              have HS3b := Lib.hid (ho3.trans ho2)
              clear HS1 q0 q1 hB hs3 ho3l hw3 ho3 ho2 hb2 hb3 HN HW2 HLO
              obtain ⟨hB, q0, q1, fz⟩ := HS3.out.tb.cells
              have f0 := fz 0
              have f1 := fz 1
              clear fz
              obtain ⟨hR, -, -, k2, k3, fz⟩ := HS3.out.rb.cells
              have f2 := fz 3
              clear fz
              go_wp2
              go_meet
              case rel => exact ⟨_, _, _, by rw [hdT.out]; exact HS3.out.setVT ⟨HS3s.out, HS3o.out⟩ _ HS3w.out HS3b.out⟩
            | false =>
              have hdT : Hid (vT ws = ([], (dT ws).2.1, (dT ws).2.2)) := by show _ = _; rw [hd.out, partT, if_neg (by rw [ht]; simp)]
              clear ht
              go_wp2
              go_meet
              case rel => exact ⟨_, _, _, by rw [hdT.out]; exact HS1.out⟩
          case rest =>
            obtain ⟨v, dv, vv, hst⟩ := hcut
            obtain ⟨av, cv, rfl⟩ := words_val hst.ww
            obtain ⟨ad, cd, rfl⟩ := hst.dl.1.val
            obtain ⟨ax, cx, rfl⟩ := hst.vl.1.val
            have HST := Lib.hid hst
            obtain ⟨hB, q0, q1, -⟩ := hst.tb.cells
            obtain ⟨hR, k0, k1, k2, k3, -⟩ := hst.rb.cells
            clear hst
            go_upto_region 11 with (fail)
            have HI := Lib.hid (fun (W : World) (hw : IsWords W (.slice av (vT ws).2.1.length cv) (vT ws).2.1) => ris_b _ (vT ws).2.1 (vT ws).2.2 b_semi W hw s4.len)
            have HN := Lib.hid (fun (W : World) (hw : IsWords W (.slice av (vT ws).2.1.length cv) (vT ws).2.1) => rnext_any _ (vT ws).2.1 (vT ws).2.2 (isT (vT ws).2.1 (vT ws).2.2 b_semi) W hw s4.len)
            have hen : Hid (endT ws = nextT (vT ws).2.1 (vT ws).2.2 (isT (vT ws).2.1 (vT ws).2.2 b_semi)) := rfl
            generalize nextT (vT ws).2.1 (vT ws).2.2 (isT (vT ws).2.1 (vT ws).2.2 b_semi) = nx at HN hen
            generalize isT (vT ws).2.1 (vT ws).2.2 b_semi = tt at HI HN
            obtain ⟨nw, nb⟩ := nx
            refine wp_region_noPanic (region_lexT (fun W => ((W.cell? ⟨w.heap.size, 0, none⟩ = some (.slice av (vT ws).2.1.length cv) ∧ W.cell? ⟨w.heap.size, 1, none⟩ = some (.bool (vT ws).2.2)) ∧ Hid (Below wc.heap.size wc W)) ∧
              (W.cell? ⟨w.heap.size + 1 + 1 + 1, 0, none⟩ = some (.int .i64 (kdT ws)) ∧ W.cell? ⟨w.heap.size + 1 + 1 + 1, 1, none⟩ = some (.string (nmT ws)) ∧ W.cell? ⟨w.heap.size + 1 + 1 + 1, 2, none⟩ = some (.slice ad (dT ws).1.length cd) ∧ W.cell? ⟨w.heap.size + 1 + 1 + 1, 3, none⟩ = some (.slice ax (vT ws).1.length cx))) [true, true, true, false, false] mixedK (by kernel_rfl) (fun _ _ _ _ _ h => h) ⟨⟨⟨q0, q1⟩, below_drew (qrefl _)⟩, k0, k1, k2, k3⟩ (fun hHeld => ?_))
            clear q0 q1 k0 k1 k2 k3 hB hR
            have SK : Hid (∀ (W : World), Below wc.heap.size wc W → (((W.cell? ⟨w.heap.size, 0, none⟩ = some (.slice av (vT ws).2.1.length cv) ∧ W.cell? ⟨w.heap.size, 1, none⟩ = some (.bool (vT ws).2.2)) ∧ Hid (Below wc.heap.size wc W)) ∧
              (W.cell? ⟨w.heap.size + 1 + 1 + 1, 0, none⟩ = some (.int .i64 (kdT ws)) ∧ W.cell? ⟨w.heap.size + 1 + 1 + 1, 1, none⟩ = some (.string (nmT ws)) ∧ W.cell? ⟨w.heap.size + 1 + 1 + 1, 2, none⟩ = some (.slice ad (dT ws).1.length cd) ∧ W.cell? ⟨w.heap.size + 1 + 1 + 1, 3, none⟩ = some (.slice ax (vT ws).1.length cx)))) := fun W hb => by
              obtain ⟨_, q0, q1, -⟩ := (HST.out.below hb).tb.cells
              obtain ⟨_, k0, k1, k2, k3, -⟩ := (HST.out.below hb).rb.cells
              exact ⟨⟨⟨q0, q1⟩, hb⟩, k0, k1, k2, k3⟩
            iterate 3 (first | (refine lexT_skip (by rfl) ?_; (try simp only [Act.put, List.setIfInBounds_toArray, List.set_cons_zero, List.set_cons_succ])) | (refine lexT_take (v := ?_) (by rfl) ?_ ?_; rotate_left; (focus (intro wq hSw; (try dsimp only at hSw); go_simp; (try with_reducible rfl))); (try simp only [Act.put, List.setIfInBounds_toArray, List.set_cons_zero, List.set_cons_succ])))
            ((refine lexT_do (by rfl) (fun K hK => ?_); go_simp); refine (HI.out _ (IsRow.below HST.out.ww hHeld.1.2.out)).mono ?_; rintro e w2 ⟨rfl, hb2⟩; (try go_simp); have hB2 := qtrans hHeld.1.2.out hb2; clear hHeld; refine hK.out _ _ (SK.out _ hB2) (fun hHeld => ?_); clear hK K hb2; (try simp only [Act.put, List.setIfInBounds_toArray, List.set_cons_zero, List.set_cons_succ]))
            ((refine lexT_do (by rfl) (fun K hK => ?_); go_simp); refine (HN.out _ (IsRow.below HST.out.ww hHeld.1.2.out)).mono ?_; rintro e w3 ⟨v3, rfl, hw3, ho3, hb3⟩; obtain ⟨a3, c3, rfl⟩ := words_val hw3; (try go_simp); have hB3 := qtrans hHeld.1.2.out hb3; clear hHeld; refine hK.out _ _ (SK.out _ hB3) (fun hHeld => ?_); clear hK K hb3; (try simp only [Act.put, List.setIfInBounds_toArray, List.set_cons_zero, List.set_cons_succ]))
            refine lexT_end ?_
            have HS3 := Lib.hid (HST.out.below hB3)
            clear hHeld SK HST HN HI
            obtain ⟨hR1, r0, r1, r2, r3, fz⟩ := HS3.out.r1.cells
            have g0 := fz 0
            have g1 := fz 1
            have g2 := fz 2
            have g3 := fz 3
            clear fz
            obtain ⟨hT1, t0, t1, fz⟩ := HS3.out.t1.cells
            have j0 := fz 0
            have j1 := fz 1
            clear fz
            have hF := HS3.out.fin nb hw3 ho3
            have HF := Lib.hid hF
            clear hF
            go_wp2_with (fail)
            refine NoPanic.normal ?_
            obtain ⟨rF, tF, dF, vF, wF, oF, bF⟩ := HF.out _ rfl
            generalize (((((w3.setCell ⟨w.heap.size + 1, 0, none⟩ (.int .i64 (kdT ws))).setCell ⟨w.heap.size + 1, 1, none⟩ (.string (nmT ws))).setCell ⟨w.heap.size + 1, 2, none⟩ (.slice ad (dT ws).1.length cd)).setCell ⟨w.heap.size + 1, 3, none⟩ (.slice ax (vT ws).1.length cx)).setCell ⟨w.heap.size + 1 + 1, 0, none⟩ (.slice a3 nw.length c3)).setCell ⟨w.heap.size + 1 + 1, 1, none⟩ (.bool nb) = WF at *
            clear HF r0 r1 r2 r3 g0 g1 g2 g3 t0 t1 j0 j1 hR1 hT1
            obtain ⟨_, x0, x1, x2, x3, -⟩ := rF.cells
            obtain ⟨_, y0, y1, -⟩ := tF.cells
            have HD := Lib.hid dF
            have HVv := Lib.hid vF
            have HWF := Lib.hid wF
            clear dF vF wF rF tF
            go_wp2
            refine bodyPost_ret (v := .tuple #[.agg #[.int .i64 (kdT ws), .string (nmT ws), .slice ad (dT ws).1.length cd, .slice ax (vT ws).1.length cx], .agg #[.slice a3 nw.length c3, .bool nb]]) (by simp [results, Tryd.results33, go_sem, x0, x1, x2, x3, y0, y1]) rfl ?_
            exact ⟨_, _, _, by rw [hen.out], HD.out, HVv.out, by rw [hen.out]; exact HWF.out, oF, bF⟩
end Go.Proofs.YtgcmekpfhagnbaaDoor
