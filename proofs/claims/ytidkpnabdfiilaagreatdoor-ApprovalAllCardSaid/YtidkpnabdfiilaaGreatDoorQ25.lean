/- owners.Required. The reference's Required. -/
import Derived.Test.YtidkpnabdfiilaaGreatDoorRiC
import Derived.Test.YtidkpnabdfiilaaGreatDoorQ24
namespace Go.Proofs.YtidkpnabdfiilaaGreatDoor
open Go.RowKit
attribute [local go_sem] run_mkMap

/-- A slice of groups that the call owns. -/
def OwnG (w : World) (base : Nat) (v : Value) (gs : List (List ByteArray)) : Prop := OwnT w [] base 30 1 (fun g => [strsT g]) v gs
theorem OwnG.reads {w : World} {base : Nat} {v : Value} {gs : List (List ByteArray)} (h : OwnG w base v gs) : Reads w [] (groupsT gs) v := OwnT.reads0 h
theorem OwnG.below {w w' : World} {base : Nat} {v : Value} {gs : List (List ByteArray)} (h : OwnG w base v gs) (m : Below w.heap.size w w') : OwnG w' base v gs := OwnT.below h m
theorem OwnG.own {w w' : World} {row : Option Nat} (hg : w.grownBy w' row) (hr : NoCells w row) {base : Nat} {v : Value} {gs : List (List ByteArray)} (h : OwnG w base v gs) : OwnG w' base v gs := by
  obtain ⟨xs, h1, h2⟩ := h; exact ⟨xs, owns_own hg hr h1, h2.own hg hr⟩
theorem reads_grown {w w' : World} {v v' u : Value} {d : Tree} (h : Reads w v.ownBlock.toList d u) (hg : w.grownBy w' v.ownBlock) (hb : v'.ownBlock = v.ownBlock ∨ v'.ownBlock = some w.heap.size) : Reads w' v'.ownBlock.toList d u := by
  have h5 := (h.more (k := w.heap.size) (Nat.le_refl _)).mod ((mod_of_grown hg).mono (fun k hk => List.mem_cons_of_mem _ hk))
  refine h5.fewer (fun k hk => ?_)
  rcases hb with hb | hb
  · rw [hb] at hk; exact List.mem_cons_of_mem _ hk
  · rw [hb] at hk
    rw [show k = w.heap.size by simpa using hk]
    exact List.mem_cons_self
theorem groups_elemX {w : World} {X : List Nat} {gs : List (List ByteArray)} {a : Option Addr} {cap : Nat} (h : Reads w X (groupsT gs) (.slice a gs.length cap)) {i : Nat} {g : List ByteArray} (hi : gs[i]? = some g) :
    ∃ (b o : Nat) (ag : Option Addr) (cg : Nat), a = some ⟨b, o, none⟩ ∧ b < w.heap.size ∧ w.cell? ⟨b, o + i, none⟩ = some (.slice ag g.length cg) ∧ g.length ≤ cg ∧ cg ≤ 9223372036854775807 ∧ Hid (Reads w X (strsT g) (.slice ag g.length cg)) := by
  obtain ⟨b, o, rfl, hb, hc⟩ := Reads.elem (size := 1) (f := fun g : List ByteArray => [strsT g]) (fun _ => rfl) h hi
  obtain ⟨u, hu, hr⟩ := hc 0 _ rfl
  obtain ⟨ag, cg, rfl, h1, h2⟩ := Reads.val hr
  exact ⟨b, o, ag, cg, rfl, hb, by simpa using hu, h1, h2, hr⟩
theorem oldX {w : World} {b n : Nat} {g : ruleMap} (h : RulesMap w b n g) : ∀ {X : List Nat}, (∀ k ∈ X, w.heap.size ≤ k) → RulesMapX w X b n g
  | [], _ => h
  | k :: X, hx => (oldX h (X := X) (fun j hj => hx j (List.mem_cons_of_mem _ hj))).more (hx k (List.mem_cons_self ..))
theorem path_size {fs : List OFile} {f : OFile} (h : TreeOk fs) (hf : f ∈ fs) : f.path.size ≤ 100 := by
  have := h.path f hf
  unfold pathS pathB at this
  simp only [Bool.and_eq_true, decide_eq_true_eq] at this
  rw [← sz]; exact this.1
theorem paths_small {old fresh : List OFile} (hs1 : SmallF old) (hs2 : SmallF fresh) (ho : old.Pairwise lessF) (hf : fresh.Pairwise lessF) : ∀ p ∈ pathsC old fresh, p.size ≤ 40000 := by
  intro p hp
  obtain ⟨c, hc, rfl⟩ := List.mem_map.1 hp
  obtain ⟨h, hm, rfl, _⟩ := ((diff_spec _ old fresh (Nat.le_refl _) ho hf).1 c).1 hc
  exact hm.elim (fun hm => (hs1.each h hm).1) (fun hm => (hs2.each h hm).1)
set_option maxRecDepth 100000 in
set_option maxHeartbeats 4000000 in
theorem Required_any (v1 v2 : Value) (old fresh : List OFile) (w : World) (h1 : Reads w [] (filesT old) v1) (h2 : Reads w [] (filesT fresh) v2) (hs1 : SmallF old) (hs2 : SmallF fresh) (hl : old.length + fresh.length ≤ 4000) (hp : ∀ p ∈ pathsC old fresh, p.size ≤ 30000) :
    Calls Tryz.prog 16 #[v1, v2] w (GroupsPost (requiredOf old fresh) w) := by
  have HC1 := Lib.hid (treeCheck_any v1 old w h1 hs1)
  obtain ⟨ig0, hig, hzg0, hzg1, hzg2⟩ := info_parts infoStrs
  obtain ⟨a1, cap1, rfl, hc1, hd1⟩ := files_val h1
  obtain ⟨a2, cap2, rfl, hc2, hd2⟩ := files_val h2
  have H1 := Lib.hid h1
  have H2 := Lib.hid h2
  have HC2 := Lib.hid (fun W h => treeCheck_any (.slice a2 fresh.length cap2) fresh W h hs2)
  have HS1 := Lib.hid hs1
  have HS2 := Lib.hid hs2
  have HP := Lib.hid hp
  have HR : Hid (requiredOf old fresh = if treeErr old = 0 then (if treeErr fresh = 0 then (reqFrom (rulesM old) [] (pathsC old fresh), 0) else ([], treeErr fresh)) else ([], treeErr old)) := rfl
  clear h1 h2 hs1 hs2 hp
  by_cases e1 : treeErr old = 0
  · rw [e1] at HC1
    have hE1 := Lib.hid e1
    by_cases e2 : treeErr fresh = 0
    · have HR2 : Hid (requiredOf old fresh = (reqFrom (rulesM old) [] (pathsC old fresh), 0)) := by show _ = _; rw [HR.out, if_pos e1, if_pos e2]
      rw [e2] at HC2
      clear e1 e2 HR
      have HGM := Lib.hid (rulesM_good old)
      have HSM := Lib.hid (rulesM_small HS1.out)
      have HPL := Lib.hid (paths_len old fresh)
      go_enter Tryz.func16, Tryz.ntmps16
      go_wp2_with (fail)
      refine HC1.out.mono ?_
      rintro e w1 ⟨rfl, hb1⟩
      go_wp2_with (fail)
      refine (HC2.out w1 (H2.out.below hb1)).mono ?_
      rintro e w2 ⟨rfl, hb2⟩
      have hb02 := qtrans hb1 hb2
      go_wp2_with (fail)
      refine (rulesOf_any _ old w2 (H1.out.below hb02) HS1.out).mono ?_
      rintro e w3 ⟨rfl, hm3, hb3⟩
      have HM3 := Lib.hid hm3
      have hb03 := qtrans hb02 hb3
      have hb04 := qtrans hb03 (qalloc w3 (.map #[] 0))
      clear hm3 HC1 HC2
      go_wp2_with (fail)
      refine (changed_any _ _ old fresh _ (H1.out.below hb04) (H2.out.below hb04) (by omega)).mono ?_
      rintro e w4 ⟨pv, rfl, hpv, hb4⟩
      have HIM : Hid (IsMapS Tryz.prog 9 w4 w3.heap.size 0 (metJ [])) := (IsMapS.made _ _ w3).below hb4
      have h34 : Below w3.heap.size w3 w4 := qtrans (qalloc w3 _) hb4
      have hz4 : w3.heap.size + 1 ≤ w4.heap.size := by have := hb4.size; simpa using this
      have HPB : Hid (∀ b, pv.ownBlock = some b → b ∉ [w3.heap.size]) := fun b hb hc => by
        have := owns_block hpv hb
        simp at this hc; omega
      have HPV := Lib.hid hpv.strs
      obtain ⟨pa, pc, rfl, hpc1, hpc2⟩ := hpv.strs.len
      generalize hps : pathsC old fresh = ps at *
      have hpsl : ps.length ≤ 4000 := by have := HPL.out; omega
      generalize rulesM old = m at *
      clear hps hpv HPL
      go_wp2
      go_loopw [10, 33] (fun ov iv wr => ∃ (k : Nat), k ≤ ps.length ∧ iv = .int .i64 k ∧ Hid (OwnG wr w4.heap.size ov (reqFrom m [] (ps.take k))) ∧ Hid (IsMapS Tryz.prog 9 wr w3.heap.size (reqFrom m [] (ps.take k)).length (metJ (reqFrom m [] (ps.take k)))) ∧ Mod [w3.heap.size] w4 wr)
        (fun _ iv _ => ps.length - (intOf iv).toNat)
      case atStart => exact ⟨0, Nat.zero_le _, rfl, OwnT.nil _ _ _ _ _ _, HIM, Mod.refl _ _⟩
      case round =>
        obtain ⟨k, hk, rfl, HO, HI, hmod⟩ := hrel
        have hk0 : (0 : Int) ≤ (k : Int) := by omega
        by_cases hkl : k < ps.length
        · have hpk : ps[k]? = some (ps.getD k ByteArray.empty) := by rw [List.getD_eq_getElem?_getD, List.getElem?_eq_getElem hkl]; rfl
          obtain ⟨b1, o1, rfl, hbb1, c1⟩ := (HPV.out.mod hmod HPB.out).elem hkl
          have HRQ := Lib.hid (reqFrom_at (m := m) (out := []) hpk)
          have hpz := HP.out _ (List.mem_of_getElem? hpk)
          have HGO := Lib.hid (reqFrom_good HGM.out (ps := ps.take k) (out := []) (fun _ h => by cases h))
          have hol : (reqFrom m [] (ps.take k)).length ≤ 32000 := by have := reqFrom_len HGM.out (ps.take k) []; rw [List.length_take] at this; simp at this; omega
          clear hpk
          generalize ps.getD k ByteArray.empty = p at *
          generalize reqFrom m [] (ps.take k) = out at *
          have hk1 : (k : Int) < (ps.length : Int) := by omega
          have HX : Hid (RulesMapX wr u10.ownBlock.toList w2.heap.size old.length m) := (oldX HM3.out (X := u10.ownBlock.toList) (fun j hj => by
            have := OwnT.ge HO.out (b := j) (by simpa using hj)
            omega)).below (h34.trans (hmod.upto (by omega) (fun k hk => by simp at hk; omega)))
          go_wp2_with (fail)
          refine (ownersOf_anyX u10.ownBlock.toList p hpz w2.heap.size old.length m HSM.out wr HX.out).mono ?_
          rintro e w5 ⟨gv, rfl, hgv, hb5⟩
          have HO5 : Hid (OwnG w5 w4.heap.size u10 (addGs out ((ownersM m p).take 0))) := HO.out.below hb5
          have HI5 : Hid (IsMapS Tryz.prog 9 w5 w3.heap.size (addGs out ((ownersM m p).take 0)).length (metJ (addGs out ((ownersM m p).take 0)))) := HI.out.below hb5
          have hmod5 : Mod [w3.heap.size] w4 w5 := hmod.trans (Mod.of hb5)
          have HGG := Lib.hid (ownersM_good HGM.out p)
          have hgl := ownersM_len HGM.out p
          have HAG := Lib.hid (fun j => addGs_good (gs := (ownersM m p).take j) HGO.out (fun h hh => HGG.out h (List.mem_of_mem_take hh)))
          generalize ownersM m p = gs at *
          obtain ⟨ga, gc, rfl, hgc1, hgc2⟩ := groups_val hgv
          have HGV := Lib.hid hgv
          clear hgv hb5 HO HI hmod HX
          go_wp2
          go_loopw [10, 41] (fun ov iv wr => ∃ (j : Nat), j ≤ gs.length ∧ iv = .int .i64 j ∧ Hid (OwnG wr w4.heap.size ov (addGs out (gs.take j))) ∧ Hid (IsMapS Tryz.prog 9 wr w3.heap.size (addGs out (gs.take j)).length (metJ (addGs out (gs.take j)))) ∧ Hid (Reads wr ov.ownBlock.toList (groupsT gs) (.slice ga gs.length gc)) ∧ Mod [w3.heap.size] w4 wr)
            (fun _ iv _ => gs.length - (intOf iv).toNat)
          case atStart => exact ⟨0, Nat.zero_le _, rfl, HO5, HI5, HGV, hmod5⟩
          case round =>
            clear HO5 HI5 HGV hmod5
            obtain ⟨j, hj, rfl, HO, HI, HG, hmod⟩ := hrel
            have hj0 : (0 : Int) ≤ (j : Int) := by omega
            by_cases hjl : j < gs.length
            · obtain ⟨g, hg⟩ : ∃ g, gs[j]? = some g := ⟨_, List.getElem?_eq_getElem hjl⟩
              obtain ⟨b2, o2, ag, cg, rfl, hb2, c2, q1, q2, HR⟩ := groups_elemX HG.out hg
              have hj1 : (j : Int) < (gs.length : Int) := by omega
              have HAT := Lib.hid (addGs_at (out := out) hg)
              have hgd := HGG.out g (List.mem_of_getElem? hg)
              have hgood := HAG.out j
              have hlen2 : (addGs out (gs.take j)).length ≤ 32010 := by have := addGs_len (gs.take j) out; rw [List.length_take] at this; omega
              clear hg
              generalize addGs out (gs.take j) = cur at *
              have hjz : (bOf (joinL g)).size ≤ 600 := by rw [← sz, data_bOf]; exact joinL_len hgd
              have HJ := Lib.hid (fun W h => join_any (.slice ag g.length cg) g (bOf (joinL g)) W h hgd.pos rfl (by have := hgd.len; omega) (by omega))
              have hlook := fun W h => IsMapS.look (w := W) (b := w3.heap.size) (n := cur.length) (f := metJ cur) h strKeyed Tryz.underlying82 (Tryz.zeroValue4 W) (key_str (bOf (joinL g)) (by omega))
              have HGET := Lib.hid (metJ_get hgood hgd)
              go_wp2_with (fail)
              refine (HJ.out wr (reads_strs.1 HR.out).1).mono ?_
              rintro e w6 ⟨rfl, hb6⟩
              have hl6 := hlook w6 (HI.out.below hb6)
              rw [data_bOf, HGET.out] at hl6
              clear hlook HJ
              have hmod6 : Mod [w3.heap.size] w4 w6 := hmod.trans (Mod.of hb6)
              cases hhas : hasG cur g with
              | true =>
                rw [hhas] at hl6
                have HN : Hid (addGs out (gs.take (j + 1)) = cur) := by show _ = _; rw [HAT.out, addG, hhas]; rfl
                go_wp2
                go_roundw
                case rel => exact ⟨j + 1, by omega, by go_num, by rw [HN.out]; exact HO.out.below hb6, by rw [HN.out]; exact HI.out.below hb6, HG.out.below hb6, hmod6⟩
                case measure => simp [intOf]; omega
              | false =>
                rw [hhas] at hl6
                have HN : Hid (addGs out (gs.take (j + 1)) = cur ++ [g]) := by show _ = _; rw [HAT.out, addG, hhas]; rfl
                have hio := HI.out.below hb6
                obtain ⟨w7, hput, hm7, hg7⟩ := hio.put strKeyed Tryz.underlying82 (by unfold maxLen; omega) (key_str (bOf (joinL g)) (by omega)) (.bool true)
                rw [data_bOf, metJ_snoc] at hm7
                have nc : NoCells w6 (some w3.heap.size) := hio.noCells
                obtain ⟨xs, hrow, hrl⟩ := (HO.out.below hb6).own hg7 nc
                have HRL := Lib.hid hrl
                have HM7 := Lib.hid hm7
                have HR7 := Lib.hid ((HR.out.below hb6).own hg7 nc)
                have HG7 := Lib.hid ((HG.out.below hb6).own hg7 nc)
                have hmod7 : Mod [w3.heap.size] w4 w7 := hmod6.trans (mod_of_grown hg7)
                have hz7 := hmod7.size
                clear hm7 hg7 nc hrl hio HR HG hmod hmod6 HI
                go_wp2_with (at_builtin; refine wpList_append_own_at _ rfl _ _ 23 rfl w4.heap.size 30 ig0 _ 1 24 Tryz.underlying23 hig hzg0 hzg1 hzg2 rfl (by decide) _ _ _ rfl (hrow.alloc _) ⟨w7.heap.size, 0, none⟩ 1 1 [.slice ag g.length cg] rfl rfl (cell_one_new _ _ _) (by simp [Value.oneCell']) (by unfold maxLen; omega) (by omega) (by simp; omega) ?_)
                intro v' w8 hown8 hg8 _ hbk8
                have hA := qalloc w7 (.cells #[.slice ag g.length cg] 30)
                have HO8 : Hid (OwnG w8 w4.heap.size v' (cur ++ [g])) := OwnT.grown (hrow.alloc _) (HRL.out.below hA) ((ReadsL.cons (by rw [List.append_nil]; exact HR7.out) (ReadsL.nil _ _)).below hA) hown8 hg8 (by simpa using hbk8)
                have HG8 := Lib.hid (reads_grown (v' := v') (HG7.out.below hA) hg8 (by simpa using hbk8))
                have HM8 : Hid (IsMapS Tryz.prog 9 w8 w3.heap.size (cur ++ [g]).length (metJ (cur ++ [g]))) := by
                  rw [List.length_append]
                  exact (HM7.out.below hA).kept hg8 (fun e => by have := owns_block hrow e.symm; omega)
                have hmod8 : Mod [w3.heap.size] w4 w8 := (hmod7.alloc _).trans' hg8 (fun k hk => owns_block hrow hk)
                clear hg8 hbk8 hown8 hA hrow HM7 HRL HG7 HR7 hmod7
                rw [← HN.out] at HO8 HM8
                go_wp2
                go_roundw
                case rel => exact ⟨j + 1, by omega, by go_num, HO8, HM8, HG8, hmod8⟩
                case measure => simp [intOf]; omega
            · have hjl' : j = gs.length := by omega
              subst hjl'
              rw [List.take_length, ← HRQ.out] at HO HI
              go_wp2
              go_roundw
              case rel => exact ⟨k + 1, by omega, by go_num, HO, HI, hmod⟩
              case measure => simp [intOf]; omega
        · have hkl' : k = ps.length := by omega
          subst hkl'
          rw [List.take_length] at HO
          obtain ⟨oa, oc, rfl, -, -⟩ := OwnT.val HO.out
          have hbf : Below w.heap.size w wr := (hb03.trans ((qalloc w3 (.map #[] 0)).mono hb03.size)).trans ((hb4.mono (by have := hb04.size; exact this)).trans (hmod.upto (by have := hb03.size; omega) (fun k hk => by have := hb03.size; simp at hk; omega)))
          go_wp2
          go_ret2
          rw [HR2.out]
          exact ⟨_, rfl, HO.out.reads, hbf⟩
    · have HR2 : Hid (requiredOf old fresh = ([], treeErr fresh)) := by show _ = _; rw [HR.out, if_pos e1, if_neg e2]
      have hne : (treeErr fresh != 0) = true := by simpa using e2
      generalize treeErr fresh = q at *
      clear e1 e2 HR
      go_enter Tryz.func16, Tryz.ntmps16
      go_wp2_with (fail)
      refine HC1.out.mono ?_
      rintro e w1 ⟨rfl, hb1⟩
      go_wp2_with (fail)
      refine (HC2.out w1 (H2.out.below hb1)).mono ?_
      rintro e w2 ⟨rfl, hb2⟩
      go_wp2
      go_ret2
      rw [HR2.out]
      exact ⟨_, rfl, Reads.nilRow _ _ _ _, qtrans hb1 hb2⟩
  · have HR2 : Hid (requiredOf old fresh = ([], treeErr old)) := by show _ = _; rw [HR.out, if_neg e1]
    have hne : (treeErr old != 0) = true := by simpa using e1
    generalize treeErr old = q at *
    clear e1 HR
    go_enter Tryz.func16, Tryz.ntmps16
    go_wp2_with (fail)
    refine HC1.out.mono ?_
    rintro e w1 ⟨rfl, hb1⟩
    go_wp2
    go_ret2
    rw [HR2.out]
    exact ⟨_, rfl, Reads.nilRow _ _ _ _, hb1⟩
end Go.Proofs.YtidkpnabdfiilaaGreatDoor

namespace Go.Proofs.YtidkpnabdfiilaaGreatDoor
open Go.RowKit

theorem Mod.grow {X : List Nat} {a b c : World} (h : Mod X a b) {row : Option Nat} (g : b.grownBy c row) (hr : ∀ k, row = some k → k ∈ X ∨ a.heap.size ≤ k) : Mod X a c :=
  ⟨g.os.trans h.os, g.tape.trans h.tape, g.output.trans h.output, Nat.le_trans h.size g.size, fun i hi hx => (g.block i (Nat.lt_of_lt_of_le hi h.size) (fun e => by
    rcases hr i e.symm with h1 | h1
    · exact hx h1
    · omega)).trans (h.block i hi hx)⟩
theorem OwnG.new (w : World) (base : Nat) (hb : base ≤ w.heap.size) : OwnG (w.alloc (.cells #[] 30)) base (.slice (some ⟨w.heap.size, 0, none⟩) 0 0) [] :=
  ⟨[], ⟨rfl, .inr ⟨w.heap.size, 0, #[], rfl, hb, World.alloc_heap_new _ _, Nat.le_refl _, Nat.zero_le _, rfl, rfl⟩⟩, by simp [ReadsL]⟩
theorem OwnG.drewN {w : World} {base : Nat} {v : Value} {gs : List (List ByteArray)} (h : OwnG w base v gs) (n : Nat) : OwnG (w.drewN n) base v gs := h.below (below_drewN (qrefl w) n)
set_option maxRecDepth 100000 in
set_option maxHeartbeats 4000000 in
theorem rRequired_any (v1 v2 : Value) (old fresh : List OFile) (w : World) (h1 : Reads w [] (filesT old) v1) (h2 : Reads w [] (filesT fresh) v2) (hs1 : SmallF old) (hs2 : SmallF fresh) (hd1 : ∀ f ∈ old, f.data.size ≤ 16000) (hd2 : ∀ f ∈ fresh, f.data.size ≤ 16000) (hl : old.length + fresh.length ≤ 4000) :
    Calls Tryz.prog 17 #[v1, v2] w (GroupsPost (requiredOf old fresh) w) := by
  have HC1 := Lib.hid (r9Check_any v1 old w h1 hs1 hd1)
  obtain ⟨ig0, hig, hzg0, hzg1, hzg2⟩ := info_parts infoStrs
  obtain ⟨a1, cap1, rfl, hc1, hd1⟩ := files_val h1
  obtain ⟨a2, cap2, rfl, hc2, hd2'⟩ := files_val h2
  have H1 := Lib.hid h1
  have H2 := Lib.hid h2
  have HC2 := Lib.hid (fun W h => r9Check_any (.slice a2 fresh.length cap2) fresh W h hs2 hd2)
  have HS1 := Lib.hid hs1
  have HR : Hid (requiredOf old fresh = if treeErr old = 0 then (if treeErr fresh = 0 then (reqFrom (rulesM old) [] (pathsC old fresh), 0) else ([], treeErr fresh)) else ([], treeErr old)) := rfl
  clear h1 h2 hs1 hs2 hd2
  by_cases e1 : treeErr old = 0
  · rw [e1] at HC1
    by_cases e2 : treeErr fresh = 0
    · have HR2 : Hid (requiredOf old fresh = (reqFrom (rulesM old) [] (pathsC old fresh), 0)) := by show _ = _; rw [HR.out, if_pos e1, if_pos e2]
      rw [e2] at HC2
      have T1 := (treeErr_iff old).1 e1
      have T2 := (treeErr_iff fresh).1 e2
      have HT1 := Lib.hid e1
      have HGM := Lib.hid (rulesM_good old)
      have HPL := Lib.hid (diff_len _ old fresh (Nat.le_refl _))
      have HCH := Lib.hid (changes_diff T1.ord T2.ord)
      have HDP := Lib.hid (fun c (hc : c ∈ diffC old fresh) => diff_path T1 T2 hc)
      have HDS : Hid (∀ c ∈ diffC old fresh, c.path.size ≤ 30000) := fun c hc => by
        have := HDP.out c hc
        unfold pathS pathB at this
        simp only [Bool.and_eq_true, decide_eq_true_eq] at this
        have h3 := this.1
        rw [← sz]; omega
      clear e1 e2 HR T1 T2
      go_enter Tryz.func17, Tryz.ntmps17
      go_wp2_with (fail)
      refine HC1.out.mono ?_
      rintro e w1 ⟨rfl, hb1⟩
      go_wp2_with (fail)
      refine (HC2.out w1 (H2.out.below hb1)).mono ?_
      rintro e w2 ⟨rfl, hb2⟩
      have hb02 := qtrans hb1 hb2
      have hb03 := qtrans hb02 (qalloc w2 (.cells #[] 30))
      clear HC1 HC2
      go_wp2_with (fail)
      refine (r9Changes_any _ _ old fresh _ (H1.out.below hb03) (H2.out.below hb03) (by omega)).mono ?_
      rintro e w4 ⟨cv, rfl, hcv, hb4⟩
      rw [HCH.out] at hcv
      have HO4 : Hid (OwnG w4 w2.heap.size (.slice (some ⟨w2.heap.size, 0, none⟩) 0 0) []) := (OwnG.new w2 _ (Nat.le_refl _)).below hb4
      have hz4 : w2.heap.size + 1 ≤ w4.heap.size := by have := hb4.size; simpa using this
      have HCB : Hid (∀ b, cv.ownBlock = some b → w2.heap.size + 1 ≤ b) := fun b hb => by
        have := owns_block hcv hb
        simpa using this
      have HCV := Lib.hid hcv.reads
      have HCX : Hid (Reads w4 [w2.heap.size] (chgsT (diffC old fresh)) cv) := by
        obtain ⟨xs, r1, _, r3⟩ := Reads.toRow hcv.reads
        exact Reads.ofRow r1 (fun _ b hb hc => by have := HCB.out b hb; simp at hc; omega) (by rw [readsL_chgs] at r3 ⊢; exact r3)
      obtain ⟨ca, cc, rfl, hcc1, hcc2⟩ := chgs_val hcv.reads
      have hb4' : Below w.heap.size w w4 := hb03.trans (hb4.mono hb03.size)
      have hz0 := hb02.size
      unfold pathsC at HR2
      generalize diffC old fresh = cs at *
      have hcl : cs.length ≤ 4000 := by have := HPL.out; omega
      have HRM := Lib.hid (fun X p w h1 h2 h3 h4 => rowned_anyX X (.slice a1 old.length cap1) old p w h1 h2 HS1.out HT1.out h3 h4)
      generalize rulesM old = m at *
      clear hcv HPL HCV HCB hb03 hb4
      go_wp2
      go_loopw [7, 9] (fun ov iv wr => ∃ (k : Nat), k ≤ cs.length ∧ iv = .int .i64 k ∧ Hid (OwnG wr w2.heap.size ov (reqFrom m [] ((cs.map (·.path)).take k))) ∧ Hid (∀ b, ov.ownBlock = some b → b ∈ [w2.heap.size] ∨ w4.heap.size ≤ b) ∧ Mod [w2.heap.size] w4 wr)
        (fun _ iv _ => cs.length - (intOf iv).toNat)
      case atStart => exact ⟨0, Nat.zero_le _, rfl, HO4, fun b hb => by cases hb; exact .inl (by simp), Mod.refl _ _⟩
      case round =>
        obtain ⟨k, hk, rfl, HO, HOB, hmod⟩ := hrel
        have hk0 : (0 : Int) ≤ (k : Int) := by omega
        by_cases hkl : k < cs.length
        · obtain ⟨c, hc⟩ : ∃ c, cs[k]? = some c := ⟨_, List.getElem?_eq_getElem hkl⟩
          obtain ⟨b1, o1, rfl, hbb1, d1, -, -, -, -⟩ := chgs_elem (HCX.out.mod hmod) hc
          have hpk : (cs.map (·.path))[k]? = some c.path := by rw [List.getElem?_map, hc]; rfl
          have HRQ := Lib.hid (reqFrom_at (m := m) (out := []) hpk)
          have hpz := HDS.out c (List.mem_of_getElem? hc)
          have hpp := HDP.out c (List.mem_of_getElem? hc)
          have HGO := Lib.hid (reqFrom_good HGM.out (ps := (cs.map (·.path)).take k) (out := []) (fun _ h => by cases h))
          have hol : (reqFrom m [] ((cs.map (·.path)).take k)).length ≤ 32000 := by have := reqFrom_len HGM.out ((cs.map (·.path)).take k) []; rw [List.length_take] at this; simp at this; omega
          clear hpk hc
          generalize c.path = p at *
          generalize reqFrom m [] ((cs.map (·.path)).take k) = out at *
          have hk1 : (k : Int) < (cs.length : Int) := by omega
          have hbw : Below w.heap.size w wr := hb4'.trans (hmod.upto hb4'.size (fun k hk => by simp at hk; omega))
          go_wp2_with (fail)
          refine (HRM.out u7.ownBlock.toList p wr (fun k hk => OwnT.lt HO.out (by simpa using hk)) (H1.out.below hbw) hpp hpz).mono ?_
          rintro e w5 ⟨gv, rfl, hgv, hb5⟩
          have HO5 : Hid (OwnG w5 w2.heap.size u7 (addGs out ((ownersM m p).take 0))) := HO.out.below hb5
          have hmod5 : Mod [w2.heap.size] w4 w5 := hmod.trans (Mod.of hb5)
          have hgl := ownersM_len HGM.out p
          generalize ownersM m p = gs at *
          obtain ⟨ga, gc, rfl, hgc1, hgc2⟩ := groups_val hgv
          have HGV := Lib.hid hgv
          clear hgv hb5 HO hmod hbw
          go_wp2
          go_loopw [7, 11] (fun ov iv wr => ∃ (j : Nat), j ≤ gs.length ∧ iv = .int .i64 j ∧ Hid (OwnG wr w2.heap.size ov (addGs out (gs.take j))) ∧ Hid (∀ b, ov.ownBlock = some b → b ∈ [w2.heap.size] ∨ w4.heap.size ≤ b) ∧ Hid (Reads wr ov.ownBlock.toList (groupsT gs) (.slice ga gs.length gc)) ∧ Mod [w2.heap.size] w4 wr)
            (fun _ iv _ => gs.length - (intOf iv).toNat)
          case atStart => exact ⟨0, Nat.zero_le _, rfl, HO5, HOB, HGV, hmod5⟩
          case round =>
            clear HO5 HGV hmod5 HOB
            obtain ⟨j, hj, rfl, HO, HOB, HG, hmod⟩ := hrel
            have hj0 : (0 : Int) ≤ (j : Int) := by omega
            by_cases hjl : j < gs.length
            · obtain ⟨g, hg⟩ : ∃ g, gs[j]? = some g := ⟨_, List.getElem?_eq_getElem hjl⟩
              obtain ⟨b2, o2, ag, cg, rfl, hb2', c2, q1, q2, HR⟩ := groups_elemX HG.out hg
              have hj1 : (j : Int) < (gs.length : Int) := by omega
              have HAT := Lib.hid (addGs_at (out := out) hg)
              have hlen2 : (addGs out (gs.take j)).length ≤ 32010 := by have := addGs_len (gs.take j) out; rw [List.length_take] at this; omega
              clear hg
              generalize addGs out (gs.take j) = cur at *
              have HHG := Lib.hid (rHasGroup_any _ _ cur g wr HO.out.reads (reads_strs.1 HR.out).1)
              go_wp2_with (fail)
              refine HHG.out.mono ?_
              rintro e w6 ⟨rfl, n6, rfl⟩
              have hmod6 : Mod [w2.heap.size] w4 (wr.drewN n6) := hmod.trans (Mod.of (below_drewN (qrefl wr) n6))
              clear HHG
              cases hhas : hasG cur g with
              | true =>
                have HN : Hid (addGs out (gs.take (j + 1)) = cur) := by show _ = _; rw [HAT.out, addG, hhas]; rfl
                go_wp2
                go_roundw
                case rel => exact ⟨j + 1, by omega, by go_num, by rw [HN.out]; exact HO.out.drewN n6, HOB, HG.out.drewN n6, hmod6⟩
                case measure => simp [intOf]; omega
              | false =>
                have HN : Hid (addGs out (gs.take (j + 1)) = cur ++ [g]) := by show _ = _; rw [HAT.out, addG, hhas]; rfl
                obtain ⟨xs, hrow, hrl⟩ := HO.out.drewN n6
                have HRL := Lib.hid hrl
                have HR7 := Lib.hid (HR.out.drewN n6)
                have HG7 := Lib.hid (HG.out.drewN n6)
                have hz7 := hmod6.size
                have hc2' : (wr.drewN n6).cell? ⟨b2, o2 + j, none⟩ = some (.slice ag g.length cg) := c2
                have hb2'' : b2 < (wr.drewN n6).heap.size := hb2'
                generalize wr.drewN n6 = w7 at *
                clear hrl HR HG hmod c2 hb2'
                go_wp2_with (at_builtin; refine wpList_append_own_at _ rfl _ _ 23 rfl w2.heap.size 30 ig0 _ 1 24 Tryz.underlying23 hig hzg0 hzg1 hzg2 rfl (by decide) _ _ _ rfl (hrow.alloc _) ⟨w7.heap.size, 0, none⟩ 1 1 [.slice ag g.length cg] rfl rfl (cell_one_new _ _ _) (by simp [Value.oneCell']) (by unfold maxLen; omega) (by omega) (by simp; omega) ?_)
                intro v' w8 hown8 hg8 _ hbk8
                have hA := qalloc w7 (.cells #[.slice ag g.length cg] 30)
                have HO8 : Hid (OwnG w8 w2.heap.size v' (cur ++ [g])) := OwnT.grown (hrow.alloc _) (HRL.out.below hA) ((ReadsL.cons (by rw [List.append_nil]; exact HR7.out) (ReadsL.nil _ _)).below hA) hown8 hg8 (by simpa using hbk8)
                have HG8 := Lib.hid (reads_grown (v' := v') (HG7.out.below hA) hg8 (by simpa using hbk8))
                have hmod8 : Mod [w2.heap.size] w4 w8 := (hmod6.alloc _).grow hg8 HOB.out
                have HOB8 : Hid (∀ b, v'.ownBlock = some b → b ∈ [w2.heap.size] ∨ w4.heap.size ≤ b) := fun b hb => by
                  rcases hbk8 with e | e
                  · exact HOB.out b (by rw [← e]; exact hb)
                  · rw [e] at hb; simp at hb; exact .inr (by omega)
                clear hg8 hbk8 hown8 hA hrow HRL HG7 HR7 hmod6
                rw [← HN.out] at HO8
                go_wp2
                go_roundw
                case rel => exact ⟨j + 1, by omega, by go_num, HO8, HOB8, HG8, hmod8⟩
                case measure => simp [intOf]; omega
            · have hjl' : j = gs.length := by omega
              subst hjl'
              rw [List.take_length, ← HRQ.out] at HO
              go_wp2
              go_roundw
              case rel => exact ⟨k + 1, by omega, by go_num, HO, HOB, hmod⟩
              case measure => simp [intOf]; omega
        · have hkl' : k = cs.length := by omega
          subst hkl'
          rw [List.take_of_length_le (by simp)] at HO
          obtain ⟨oa, oc, rfl, -, -⟩ := OwnT.val HO.out
          have hbf : Below w.heap.size w wr := hb4'.trans (hmod.upto hb4'.size (fun k hk => by simp at hk; omega))
          go_wp2
          go_ret2
          rw [HR2.out]
          exact ⟨_, rfl, HO.out.reads, hbf⟩
    · have HR2 : Hid (requiredOf old fresh = ([], treeErr fresh)) := by show _ = _; rw [HR.out, if_pos e1, if_neg e2]
      have hne : (treeErr fresh != 0) = true := by simpa using e2
      generalize treeErr fresh = q at *
      clear e1 e2 HR
      go_enter Tryz.func17, Tryz.ntmps17
      go_wp2_with (fail)
      refine HC1.out.mono ?_
      rintro e w1 ⟨rfl, hb1⟩
      go_wp2_with (fail)
      refine (HC2.out w1 (H2.out.below hb1)).mono ?_
      rintro e w2 ⟨rfl, hb2⟩
      go_wp2
      go_ret2
      rw [HR2.out]
      exact ⟨_, rfl, reads_noGroups _ _ _, qtrans (qtrans hb1 hb2) (qalloc _ _)⟩
  · have HR2 : Hid (requiredOf old fresh = ([], treeErr old)) := by show _ = _; rw [HR.out, if_neg e1]
    have hne : (treeErr old != 0) = true := by simpa using e1
    have heq : (treeErr old == 0) = false := by simpa using e1
    generalize treeErr old = q at *
    clear e1 HR
    go_enter Tryz.func17, Tryz.ntmps17
    go_wp2_with (fail)
    refine HC1.out.mono ?_
    rintro e w1 ⟨rfl, hb1⟩
    go_wp2
    go_ret2
    rw [HR2.out]
    exact ⟨_, rfl, reads_noGroups _ _ _, qtrans hb1 (qalloc _ _)⟩
end Go.Proofs.YtidkpnabdfiilaaGreatDoor
