/- The reference's Print. -/
import Derived.Test.YtgknclplheldmaaDoorPrO
namespace Go.Proofs.YtgknclplheldmaaDoor
open Go.RowKit

theorem app_data (x y : ByteArray) : (x ++ y).data.toList = x.data.toList ++ y.data.toList := by rw [ByteArray.data_append, Array.toList_append]
theorem size_of_data {x : ByteArray} {l : List UInt8} (h : x.data.toList = l) : x.size = l.length := by rw [← sz, h]
theorem blanks_snoc {ss : List ByteArray} {k : Nat} {s : ByteArray} (h : ss[k]? = some s) : blanks (ss.take (k + 1)) = blanks (ss.take k) ++ (32 :: s.data.toList) := by
  rw [take_at h]; simp [blanks]
set_option maxRecDepth 100000 in
set_option maxHeartbeats 1000000 in
theorem rPrint_any (v : Value) (rs : List ORule) (w : World) (hr : Reads w [] (rulesT rs) v) (hs : SmallR rs) :
    Calls Tryd.prog 18 #[v] w (PrintPost (printO rs) w) := by
  obtain ⟨a, cap, rfl, h1, h2⟩ := rules_val hr
  have HR := Lib.hid hr
  have HCK := Lib.hid (rCheck_any _ rs w hr hs)
  have hlen0 := hs.len
  clear hr
  by_cases hce : ocheckErr rs = 0
  · obtain ⟨hlen, hall⟩ := ocheck_ok hce
    have HF : Hid (printO rs = (bOf (textO rs), 0)) := by show _ = _; unfold printO; rw [if_pos hce]
    have HALL := Lib.hid hall
    rw [hce] at HCK
    clear hce hall
    go_enter Tryd.func18, Tryd.ntmps18
    go_wp2_with (fail)
    refine HCK.out.mono ?_
    rintro e w1 ⟨rfl, hb1⟩
    have HR1 := Lib.hid (HR.out.below hb1)
    clear HR HCK
    go_wp2
    go_loop [5, 6, 7, 8] (fun s i _ _ => ∃ (k : Nat) (x : ByteArray), k ≤ rs.length ∧ i = .int .i64 k ∧ s = .string x ∧ Hid (x.data.toList = textO (rs.take k))) (fun _ i _ _ => rs.length - (intOf i).toNat)
    case atStart => exact ⟨0, _, Nat.zero_le _, rfl, rfl, rfl⟩
    case round =>
      obtain ⟨k, x, hk, rfl, rfl, HX⟩ := hrel
      have hxz : x.size ≤ 415800 := by
        rw [size_of_data HX.out]
        have := textO_len (rs := rs.take k) (fun q hq => HALL.out q (List.mem_of_mem_take hq))
        rw [List.length_take] at this
        have h3 : min k rs.length * 4158 ≤ 100 * 4158 := Nat.mul_le_mul_right _ (by omega)
        omega
      by_cases hlt : k < rs.length
      · obtain ⟨r, hrk⟩ : ∃ r, rs[k]? = some r := ⟨_, List.getElem?_eq_getElem hlt⟩
        have HTX := Lib.hid (textO_snoc hrk)
        have hgood := HALL.out r (List.mem_of_getElem? hrk)
        obtain ⟨b, o, ag, cg, rfl, hbb, hcp, hcg, -, -, HG⟩ := rules_elem HR1.out hrk
        have hpl : r.pre.size ≤ 100 := by have := pre_len hgood.pre; rwa [sz] at this
        have hgl := hgood.len.2
        have HEACH := Lib.hid hgood.each
        have hhl := headO_len hgood.pre
        have HPRE : Hid (textO (rs.take (k + 1)) = ((textO (rs.take k) ++ headO r.pre) ++ (r.groups.map groupL).flatten) ++ [32, 59, 10]) := by
          show _ = _; rw [HTX.out, lineO]; simp
        have hki0 : (0 : Int) ≤ (k : Int) := by omega
        have hki1 : (k : Int) < (rs.length : Int) := by omega
        clear hrk HTX hgood
        go_upto_if 25 with (fail)
        go_cut [5, 6] from 18 to 76 (fun s5 s6 wx => s6 = .int .i64 k ∧ wx = w1 ∧ ∃ y : ByteArray, s5 = .string y ∧ Hid (y.data.toList = textO (rs.take k) ++ headO r.pre))
        case first =>
          by_cases hpe : r.pre.data.toList = []
          · have he2 : r.pre.toList.isEmpty = true := by rw [tl, hpe]; rfl
            have HHD : Hid (headO r.pre = [97, 108, 108]) := by show _ = _; unfold headO; rw [if_pos hpe]; rfl
            clear hpe
            rw [he2]
            go_wp2
            go_meet
            case rel => exact ⟨rfl, rfl, _, rfl, by show _ = _; rw [app_data, HX.out, HHD.out]⟩
          · have he2 : r.pre.toList.isEmpty = false := by rw [tl]; cases h : r.pre.data.toList with | nil => exact absurd h hpe | cons _ _ => rfl
            have HHD : Hid (headO r.pre = [112, 114, 101, 102, 105, 120, 32] ++ r.pre.data.toList) := by
              show _ = _; unfold headO; rw [if_neg hpe]; rfl
            clear hpe
            rw [he2]
            go_wp2
            go_meet
            case rel => exact ⟨rfl, rfl, _, rfl, by show _ = _; rw [app_data, app_data, HX.out, HHD.out, List.append_assoc]⟩
        case rest =>
          obtain ⟨rfl, rfl, y, rfl, HY⟩ := hcut
          have hyz : y.size ≤ 415907 := by
            rw [size_of_data HY.out, List.length_append]
            have := size_of_data HX.out
            omega
          clear HX hxz hhl hcp
          generalize textO (rs.take k) ++ headO r.pre = T at *
          generalize r.groups = gs at *
          have hTl : T.length ≤ 415907 := by rw [← size_of_data HY.out]; exact hyz
          clear hyz
          go_wp2
          go_loop [5, 7, 8] (fun s i _ => ∃ (q : Nat) (z : ByteArray), q ≤ gs.length ∧ i = .int .i64 q ∧ s = .string z ∧ Hid (z.data.toList = T ++ ((gs.take q).map groupL).flatten)) (fun _ i _ => gs.length - (intOf i).toNat)
          case atStart => exact ⟨0, y, Nat.zero_le _, rfl, rfl, by simpa using HY⟩
          case round =>
            obtain ⟨q, z, hq, rfl, rfl, HZ⟩ := hrel
            clear HY
            have hzz : z.size ≤ 419955 := by
              rw [size_of_data HZ.out, List.length_append]
              have := groups_len (gs := gs.take q) (by rw [List.length_take]; omega) (fun g hg => (HEACH.out g (List.mem_of_mem_take hg)).2)
              omega
            by_cases hql : q < gs.length
            · obtain ⟨g, hg⟩ : ∃ g, gs[q]? = some g := ⟨_, List.getElem?_eq_getElem hql⟩
              have heg := HEACH.out g (List.mem_of_getElem? hg)
              obtain ⟨bg, og, ga, gc, rfl, hbg, hcgq, -, -, HS⟩ := groups_elem HG.out hg
              have HFL := Lib.hid (groupsL_snoc hg)
              have HEG := Lib.hid heg
              have hg20 := heg.2.1
              have hqi0 : (0 : Int) ≤ (q : Int) := by omega
              have hqi1 : (q : Int) < (gs.length : Int) := by omega
              have HZ0 : Hid (z.data.toList = T ++ ((gs.take q).map groupL).flatten) := HZ
              generalize T ++ ((gs.take q).map groupL).flatten = T2 at HZ0
              have hT2 : T2.length ≤ 419955 := by rw [← size_of_data HZ0.out]; exact hzz
              clear hg heg
              go_wp2
              go_loop [5, 8] (fun s i => ∃ (m : Nat) (u : ByteArray), m ≤ g.length ∧ i = .int .i64 m ∧ s = .string u ∧ Hid (u.data.toList = T2 ++ (32 :: wGroup) ++ blanks (g.take m))) (fun _ i => g.length - (intOf i).toNat)
              case atStart => exact ⟨0, _, Nat.zero_le _, rfl, rfl, by show _ = _; rw [app_data, HZ0.out]; simp [blanks, wGroup]⟩
              case round =>
                obtain ⟨m, u, hm, rfl, rfl, HU⟩ := hrel
                have huz : u.size ≤ 420461 := by
                  rw [size_of_data HU.out, List.length_append, List.length_append]
                  have e : (32 :: wGroup).length = 6 := rfl
                  have := blanks_len 24 (l := g.take m) (fun s hs => (person_len (HEG.out.2.2 s (List.mem_of_mem_take hs))).2)
                  rw [List.length_take] at this
                  have h3 : min m g.length * (24 + 1) ≤ 20 * (24 + 1) := Nat.mul_le_mul_right _ (by omega)
                  omega
                by_cases hml : m < g.length
                · obtain ⟨a', cap', e, _, _, h3⟩ := HS.out.shape
                  cases e
                  obtain ⟨bs, os, rfl, hbs, hc⟩ := h3 m hml
                  have hcm := hc m hml
                  have hmi0 : (0 : Int) ≤ (m : Int) := by omega
                  have hmi1 : (m : Int) < (g.length : Int) := by omega
                  obtain ⟨s, hsm⟩ : ∃ s, g[m]? = some s := ⟨_, List.getElem?_eq_getElem hml⟩
                  have hgs : g.getD m ByteArray.empty = s := by rw [List.getD_eq_getElem?_getD, hsm]; rfl
                  rw [hgs] at hcm
                  have HBS := Lib.hid (blanks_snoc hsm)
                  have hss : s.size ≤ 24 := by have := (person_len (HEG.out.2.2 s (List.mem_of_getElem? hsm))).2; rwa [sz] at this
                  clear hc h3 hgs hsm
                  go_wp2
                  go_round
                  case rel => exact ⟨m + 1, _, by omega, by go_num, rfl, by show _ = _; rw [app_data, app_data, HU.out, HBS.out]; simp⟩
                  case measure => simp [intOf]; omega
                · have hme : g.take m = g := List.take_of_length_le (by omega)
                  have HU2 : Hid (u.data.toList = T ++ ((gs.take (q + 1)).map groupL).flatten) := by
                    show _ = _
                    rw [HU.out, hme, HFL.out, ← List.append_assoc, ← HZ.out, HZ0.out]
                    simp [groupL]
                  go_wp2
                  go_round
                  case rel => exact ⟨q + 1, u, by omega, by go_num, rfl, HU2⟩
                  case measure => simp [intOf]; omega
            · have hqe : gs.take q = gs := List.take_of_length_le (by omega)
              rw [hqe] at HZ
              clear hqe
              go_wp2
              go_round
              case rel => exact ⟨k + 1, _, by omega, by go_num, rfl, by show _ = _; rw [app_data, HZ.out, HPRE.out]⟩
              case measure => simp [intOf]; omega
      · obtain rfl : k = rs.length := by omega
        have HE : Hid (x = bOf (textO rs)) := by show _ = _; apply bOf_inj; rw [HX.out, List.take_length, data_bOf]
        go_wp2
        go_ret2
        rw [HF.out, ← HE.out]
        exact ⟨rfl, hb1⟩
  · have HF : Hid (printO rs = (⟨#[]⟩, ocheckErr rs)) := by show _ = _; unfold printO; rw [if_neg hce]
    generalize ocheckErr rs = q at *
    have hce' : (q != 0) = true := by simp [hce]
    clear hce
    go_enter Tryd.func18, Tryd.ntmps18
    go_wp2_with (fail)
    refine HCK.out.mono ?_
    rintro e w1 ⟨rfl, hb1⟩
    go_wp2
    go_ret2
    rw [HF.out]
    exact ⟨rfl, hb1⟩
end Go.Proofs.YtgknclplheldmaaDoor
