/- The law ModmergeFields, walked: it returns true. -/
import Derived.Test.YtlgnedahnaojlaaGreatDoorUGE
import Derived.Test.YtlgnedahnaojlaaGreatDoorUFB
namespace Go.Proofs.YtlgnedahnaojlaaGreatDoor
open Go.RowKit Go.Shelf
attribute [local go_sem] Oper.semAt_some

theorem mixed_four (w : World) (t1 t2 t3 t4 : TypeId) (xs ys zs us : Array Value) :
  CBox ((((w.alloc (.cells xs t1)).alloc (.cells ys t2)).alloc (.cells zs t3)).alloc (.cells us t4)) w.heap.size t1 xs ∧ CBox ((((w.alloc (.cells xs t1)).alloc (.cells ys t2)).alloc (.cells zs t3)).alloc (.cells us t4)) (w.heap.size + 1) t2 ys ∧
  CBox ((((w.alloc (.cells xs t1)).alloc (.cells ys t2)).alloc (.cells zs t3)).alloc (.cells us t4)) (w.heap.size + 1 + 1) t3 zs ∧ CBox ((((w.alloc (.cells xs t1)).alloc (.cells ys t2)).alloc (.cells zs t3)).alloc (.cells us t4)) (w.heap.size + 1 + 1 + 1) t4 us ∧
  Bw w ((((w.alloc (.cells xs t1)).alloc (.cells ys t2)).alloc (.cells zs t3)).alloc (.cells us t4)) := by
 refine ⟨(((CBox.new w t1 xs).alloc _).alloc _).alloc _, ?_, ?_, ?_, qtrans (qtrans (qtrans (qalloc _ _) (qalloc _ _)) (qalloc _ _)) (qalloc _ _)⟩
 ·have := CBox.new (w.alloc (.cells xs t1)) t2 ys
  rw [World.size_alloc] at this; exact (this.alloc _).alloc _
 ·have := CBox.new ((w.alloc (.cells xs t1)).alloc (.cells ys t2)) t3 zs
  rw [World.size_alloc, World.size_alloc] at this; exact this.alloc _
 ·have := CBox.new (((w.alloc (.cells xs t1)).alloc (.cells ys t2)).alloc (.cells zs t3)) t4 us
  rw [World.size_alloc, World.size_alloc, World.size_alloc] at this; exact this
theorem one_mod {w : World} {B : Nat} {b : OMod} {aub adb : Option Addr} {cub cdb : Nat} (h : CBox w B 25 (mA b aub cub adb cdb)) (hb : ModIn w [] b aub cub adb cdb) : ModsAt w B [b] :=
 ⟨h.lt, fun i x hi => by
  match i, hi with
  | 0, hi => injection hi with hi; subst hi; exact ⟨_, _, _, _, hb, h.cell (i := 0) rfl, h.cell (i := 1) rfl, h.cell (i := 2) rfl⟩
  | (i + 1), hi => simp at hi⟩
theorem smX_of {x : Ex} (h : SmX 9223372036854775807 x) (g : greatX x = false) : SmX 40000 x ∧ nodesN x ≤ 40 := by
 unfold greatX at g; simp only [Bool.or_eq_false_iff, decide_eq_false_iff_not] at g
 exact ⟨smX_small h g.2, by omega⟩
theorem setD_sm {b : OMod} {k : Nat} {e : ODecl} (h : SmN b) (he : SmD e ∧ nodesN e.body ≤ 1000000) : SmN (setD b k e) :=
 ⟨⟨h.1.label, h.1.uses, h.1.ulen, fun d hd => (List.mem_or_eq_of_mem_set hd).elim (fun q => h.1.decls d q) (fun q => by rw [q]; exact he.1), by show (b.decls.set k e).length ≤ _; rw [List.length_set]; exact h.1.dlen⟩,
  fun d hd => (List.mem_or_eq_of_mem_set hd).elim (fun q => h.2 d q) (fun q => by rw [q]; exact he.2)⟩
theorem name_sm {d : ODecl} {s : ByteArray} (h : SmD d ∧ nodesN d.body ≤ 1000000) (hs : s.size ≤ 100) : SmD (nameD d s) ∧ nodesN (nameD d s).body ≤ 1000000 := ⟨⟨fun t ht => by rw [List.mem_singleton.1 (show t ∈ [s] from ht)]; omega, by show 1 ≤ 1000000; omega, h.1.body, h.1.nodes⟩, h.2⟩
theorem body_sm {d : ODecl} {x : Ex} {p : Bool} (h : SmD d ∧ nodesN d.body ≤ 1000000) (hx : SmX 40000 x ∧ nodesN x ≤ 40) : SmD (bodyD d x p) ∧ nodesN (bodyD d x p).body ≤ 1000000 := ⟨⟨h.1.names, h.1.len, hx.1, by show nodesN x ≤ _; omega⟩, by show nodesN x ≤ _; omega⟩
set_option maxRecDepth 100000 in
set_option maxHeartbeats 8000000 in
theorem LModmergeFields_any (b : OMod) (ka : Nat) (s : ByteArray) (x : Ex) (p : Bool) (aub adb ax : Option Addr) (cub cdb cx : Nat) (w : World) (hb : ModIn w [] b aub cub adb cdb) (hx : ExIn w [] x ax cx) (hbb : BigM b) (hss : s.size ≤ 4000000) (hxs : SmX 9223372036854775807 x) (hxn : nodesN x ≤ 4000000) (hka : ka ≤ 255) :
  Calls Tryz.prog 8 #[modV b aub cub adb cdb, .int .u8 ka, .string s, exV x ax cx, .bool p] w fun e w' => e = .returned (.bool true) ∧ Bw w w' := by
 obtain ⟨gb, gn, gx, gp, hA⟩ := mixed_four w 25 9 41 4 (mA b aub cub adb cdb) #[.string s] (xA x ax cx) #[.bool p]; have HMb := lH hb; have HXI := lH hx; have HGb := lH hbb; have HXS := lH hxs; have HXN := lH hxn; have HAW := lH awake33_any; clear hb hx hbb hxs hxn; unfold modV exV
 go_enter Tryz.func8, Tryz.ntmps8
 go_upto_region 1 with (fail)
 generalize (((w.alloc (.cells (mA b aub cub adb cdb) 25)).alloc (.cells #[.string s] 9)).alloc (.cells (xA x ax cx) 41)).alloc (.cells #[.bool p] 4) = W0 at *; obtain ⟨BP, hBP⟩ : ∃ R, w.heap.size + 1 + 1 + 1 = R := ⟨_, rfl⟩; rw [hBP] at gp ⊢; obtain ⟨BX, hBX⟩ : ∃ R, w.heap.size + 1 + 1 = R := ⟨_, rfl⟩; rw [hBX] at gx ⊢; obtain ⟨BN, hBN⟩ : ∃ R, w.heap.size + 1 = R := ⟨_, rfl⟩; rw [hBN] at gn ⊢; obtain ⟨B, hB⟩ : ∃ R, w.heap.size = R := ⟨_, rfl⟩; rw [hB] at gb ⊢; clear hBP hBX hBN hB; have HW0 := lH hA; have HBb0 := lH gb; have HBn0 := lH gn; have HBx0 := lH gx; have HBp0 := lH gp
 clear hA gb gn gx gp; obtain ⟨yb0, yb1, yb2, ybl⟩ := cells3 HBb0.out; have hal := qalloc W0 (.cells (mA b aub cub adb cdb) 25); have hw1 := HW0.out.trans (hal.mono HW0.out.size)
 have HG := lH (great33_any [b] W0.heap.size _ (one_mod (CBox.new W0 25 (mA b aub cub adb cdb)) (HMb.out.below hw1)) (by
  intro y hy; rw [List.mem_singleton.1 hy]
  exact HGb.out) (by simp))
 have HGF : Hid ([b].any greatM = false → SmN b) := fun h => by
  simp only [List.any_cons, List.any_nil, Bool.or_false] at h
  exact smM_of HGb.out h
 have HAL := lH hal; clear hal hw1; generalize [b].any greatM = q at *
 cases q with
 | true =>
  go_wp2_with (fail)
  refine HG.out.mono ?_; rintro e w2 ⟨rfl, hb2⟩; have HW2 := lH (HW0.out.trans ((HAL.out.trans (hb2.mono HAL.out.size)).mono HW0.out.size)); go_wp2_with (fail)
  refine (HAW.out _).mono ?_; rintro e wz ⟨rfl, hbz⟩; go_wp2; go_ret; exact ⟨rfl, HW2.out.trans (hbz.mono HW2.out.size)⟩
 | false =>
  have HSb := lH (HGF.out rfl); clear HGF; go_wp2_with (fail)
  refine HG.out.mono ?_; rintro e w2 ⟨rfl, hb2⟩; have hb02 := HAL.out.trans (hb2.mono HAL.out.size); have HBb2 := lH (HBb0.out.below hb02); have HBn2 := lH (HBn0.out.below hb02); have HBx2 := lH (HBx0.out.below hb02); have HBp2 := lH (HBp0.out.below hb02); have HW2 := lH (HW0.out.trans (hb02.mono HW0.out.size)); clear HBb0 HBn0 HBx0 HBp0 HW0; clear hb2 hb02 HAL HG yb0 yb1 yb2 ybl; obtain ⟨yx0, yx1, yx2, yx3, yx4, yx5, yxl⟩ := cells6 HBx2.out; have HGX := lH (rGreatX_any x ax cx w2 (HXI.out.below HW2.out).subs HXS.out HXN.out); unfold exV at HGX
  obtain ⟨q, hq⟩ : ∃ q, greatX x = q := ⟨_, rfl⟩; have HQX := lH hq; rw [hq] at HGX; clear hq
  cases q with
  | true =>
   go_wp2_with (fail)
   refine HGX.out.mono ?_; rintro e w3 ⟨rfl, hb3⟩; have HW3 := lH (HW2.out.trans (hb3.mono HW2.out.size)); go_wp2_with (fail)
   refine (HAW.out _).mono ?_; rintro e wz ⟨rfl, hbz⟩; go_wp2; go_ret; exact ⟨rfl, HW3.out.trans (hbz.mono HW3.out.size)⟩
  | false =>
   go_wp2_with (fail)
   refine HGX.out.mono ?_; rintro e w3 ⟨rfl, hb3⟩; have HBb3 := lH (HBb2.out.below hb3); have HBn3 := lH (HBn2.out.below hb3); have HBx3 := lH (HBx2.out.below hb3); have HBp3 := lH (HBp2.out.below hb3); have HW3 := lH (HW2.out.trans (hb3.mono HW2.out.size)); clear HBb2 HBn2 HBx2 HBp2 HW2; clear hb3 HGX yx0 yx1 yx2 yx3 yx4 yx5 yxl; have HSX := lH (smX_of HXS.out HQX.out); have HXN2 := lH HXN.out; have yn0 := (HBn3.out).cell (i := 0) (v := .string s) rfl; have ynl := (HBn3.out).lt; obtain ⟨yb0, yb1, yb2, ybl⟩ := cells3 HBb3.out
   by_cases h100 : 100 < s.size
   ·have hd1 : decide ((100 : Int) < (s.size : Int)) = true := decide_eq_true (by omega)
    go_wp2_with (fail)
    refine (HAW.out _).mono ?_; rintro e wz ⟨rfl, hbz⟩; go_wp2; go_ret; exact ⟨rfl, HW3.out.trans (hbz.mono HW3.out.size)⟩
   ·have hd1 : decide ((100 : Int) < (s.size : Int)) = false := decide_eq_false (by omega)
    by_cases h0 : b.decls.length = 0
    ·have hd2 : ((b.decls.length : Int) == 0) = true := by rw [h0]; rfl
     clear h0; go_wp2_with (fail)
     refine (HAW.out _).mono ?_; rintro e wz ⟨rfl, hbz⟩; go_wp2; go_ret; exact ⟨rfl, HW3.out.trans (hbz.mono HW3.out.size)⟩
    ·have hd2 : ((b.decls.length : Int) == 0) = false := beq_eq_false_iff_ne.2 (by omega)
     have hpos : 0 < b.decls.length := by omega
     clear h0; have HCL := lH (mClean_any b aub cub adb cdb w3 (HMb.out.below HW3.out) HSb.out.1); unfold modV at HCL; obtain ⟨cb, hcb⟩ : ∃ c, cleanB b = c := ⟨_, rfl⟩; have HCb := lH hcb; rw [hcb] at HCL; clear hcb
     cases cb with
     | false =>
      go_wp2_with (fail)
      refine HCL.out.mono ?_; rintro e w4 ⟨rfl, hbc⟩; have HW4 := lH (HW3.out.trans (hbc.mono HW3.out.size)); go_wp2_with (fail)
      refine (HAW.out _).mono ?_; rintro e wz ⟨rfl, hbz⟩; go_wp2; go_ret; exact ⟨rfl, HW4.out.trans (hbz.mono HW4.out.size)⟩
     | true =>
      go_wp2_with (fail)
      refine HCL.out.mono ?_; rintro e w4 ⟨rfl, hbc⟩; have hlen : b.decls.length ≤ 1000000 := HSb.out.1.dlen; have HBb4 := lH (HBb3.out.below hbc); have HBn4 := lH (HBn3.out.below hbc); have HBx4 := lH (HBx3.out.below hbc); have HBp4 := lH (HBp3.out.below hbc); have HW4 := lH (HW3.out.trans (hbc.mono HW3.out.size)); clear HBb3 HBn3 HBx3 HBp3 HW3; clear hbc HCL yb0 yb1 yb2 ybl yn0 ynl; obtain ⟨yb0, yb1, yb2, ybl⟩ := cells3 HBb4.out; go_upto_region 4 with (fail)
      clear yb0 yb1 yb2 ybl hd1 hd2 HXS HXN HQX HGb; rw [show ((ka : Int) % (b.decls.length : Int)) = ((ka % b.decls.length : Nat) : Int) from rfl]; have hk : ka % b.decls.length < b.decls.length := Nat.mod_lt _ hpos; generalize ka % b.decls.length = k at *; obtain ⟨d, hd⟩ : ∃ d, b.decls[k]? = some d := ⟨_, List.getElem?_eq_getElem hk⟩; have HDK := lH hd; have hal := qalloc w4 (.cells #[.int .i64 k] 3); have gk := CBox.new w4 3 #[.int .i64 k]; generalize World.alloc w4 _ = w5 at *; generalize w4.heap.size = KB at gk ⊢; have HBk5 := lH gk; have HBb5 := lH (HBb4.out.below hal)
      have HBn5 := lH (HBn4.out.below hal); have HBx5 := lH (HBx4.out.below hal); have HBp5 := lH (HBp4.out.below hal); have HW5 := lH (HW4.out.trans (hal.mono HW4.out.size)); clear HBb4 HBn4 HBx4 HBp4 HW4; clear hal gk hd hpos hk; have HSD := lH (⟨HSb.out.1.decls d (List.mem_of_getElem? HDK.out), HSb.out.2 d (List.mem_of_getElem? HDK.out)⟩ : SmD d ∧ nodesN d.body ≤ 1000000); obtain ⟨xl, hxl⟩ : ∃ y, setD b k (nameD d s) = y := ⟨_, rfl⟩; have HXl := lH hxl; have HSXl : Hid (SmN xl) := by show SmN xl; rw [← hxl]; exact setD_sm HSb.out (name_sm HSD.out (by omega))
      have HC : Hid (Calls Tryz.prog 23 #[.func (.func 24) #[] #[.pointer (some ⟨BN, 0, none⟩)], .pointer (some ⟨B, 0, none⟩), .pointer (some ⟨KB, 0, none⟩)] w5 fun e w' => ∃ au cu ad cd, e = .returned (modV xl au cu ad cd) ∧ ModIn w' [] xl au cu ad cd ∧ Bw w5 w') := (change2_any b k d s BN B KB aub adb cub cdb [] w5 (by simp) HBb5.out HBk5.out (HMb.out.below HW5.out) HDK.out hlen HBn5.out).mono (fun e w' ⟨ad, cd, h1, h2, h3⟩ => ⟨aub, cub, ad, cd, by rw [← hxl]; exact h1, by rw [← hxl]; exact h2, h3⟩); clear hxl; unfold modV at HC; go_wp2_with (fail)
      refine HC.out.mono ?_; rintro e v6 ⟨aul, cul, adl, cdl, rfl, hmx, hbm⟩; have hal := qalloc v6 (.cells (mA xl aul cul adl cdl) 25); have hbn := qtrans hbm hal; have HBXl := lH (CBox.new v6 25 (mA xl aul cul adl cdl)); have HMXl := lH (hmx.below hal); have HBb6 := lH (HBb5.out.below hbn); have HBn6 := lH (HBn5.out.below hbn); have HBx6 := lH (HBx5.out.below hbn); have HBp6 := lH (HBp5.out.below hbn); have HBk6 := lH (HBk5.out.below hbn); have HW6 := lH (HW5.out.trans (hbn.mono HW5.out.size)); clear HBb5 HBn5 HBx5 HBp5 HBk5 HW5; go_upto_region 6 with (fail)
      clear hal hbn hbm hmx HC; generalize World.alloc v6 _ = w6 at *; generalize v6.heap.size = Nl at *; obtain ⟨xr, hxr⟩ : ∃ y, setD b k (bodyD d x p) = y := ⟨_, rfl⟩; have HXr := lH hxr; have HSXr : Hid (SmN xr) := by show SmN xr; rw [← hxr]; exact setD_sm HSb.out (body_sm HSD.out HSX.out)
      have HC : Hid (Calls Tryz.prog 23 #[.func (.func 25) #[] #[.pointer (some ⟨BX, 0, none⟩), .pointer (some ⟨BP, 0, none⟩)], .pointer (some ⟨B, 0, none⟩), .pointer (some ⟨KB, 0, none⟩)] w6 fun e w' => ∃ au cu ad cd, e = .returned (modV xr au cu ad cd) ∧ ModIn w' [] xr au cu ad cd ∧ Bw w6 w') := (change3_any b k d x p ax cx BX BP B KB aub adb cub cdb [] w6 (by simp) HBb6.out HBk6.out (HMb.out.below HW6.out) HDK.out hlen HBx6.out HBp6.out (HXI.out.below HW6.out)).mono (fun e w' ⟨ad, cd, h1, h2, h3⟩ => ⟨aub, cub, ad, cd, by rw [← hxr]; exact h1, by rw [← hxr]; exact h2, h3⟩)
      clear hxr; unfold modV at HC; go_wp2_with (fail)
      refine HC.out.mono ?_; rintro e v7 ⟨aur, cur, adr, cdr, rfl, hmx, hbm⟩; have hal := qalloc v7 (.cells (mA xr aur cur adr cdr) 25); have hbn := qtrans hbm hal; have HBXr := lH (CBox.new v7 25 (mA xr aur cur adr cdr)); have HMXr := lH (hmx.below hal); have HBb7 := lH (HBb6.out.below hbn); have HBn7 := lH (HBn6.out.below hbn); have HBx7 := lH (HBx6.out.below hbn); have HBp7 := lH (HBp6.out.below hbn); have HBk7 := lH (HBk6.out.below hbn); have HW7 := lH (HW6.out.trans (hbn.mono HW6.out.size)); have HBXl := lH (HBXl.out.below hbn); have HMXl := lH (HMXl.out.below hbn)
      clear HBb6 HBn6 HBx6 HBp6 HBk6 HW6; go_upto_region 7 with (fail)
      clear hal hbn hbm hmx HC; generalize World.alloc v7 _ = w7 at *; generalize v7.heap.size = Nr at *; obtain ⟨xw, hxw⟩ : ∃ y, setD b k (nameD (bodyD d x p) s) = y := ⟨_, rfl⟩; have HXw := lH hxw; have HSXw : Hid (SmN xw) := by show SmN xw; rw [← hxw]; exact setD_sm HSb.out (name_sm (body_sm HSD.out HSX.out) (by omega))
      have HC : Hid (Calls Tryz.prog 23 #[.func (.func 26) #[] #[.pointer (some ⟨BN, 0, none⟩), .pointer (some ⟨BX, 0, none⟩), .pointer (some ⟨BP, 0, none⟩)], .pointer (some ⟨B, 0, none⟩), .pointer (some ⟨KB, 0, none⟩)] w7 fun e w' => ∃ au cu ad cd, e = .returned (modV xw au cu ad cd) ∧ ModIn w' [] xw au cu ad cd ∧ Bw w7 w') := (change4_any b k d s x p ax cx BN BX BP B KB aub adb cub cdb [] w7 (by simp) HBb7.out HBk7.out (HMb.out.below HW7.out) HDK.out hlen HBn7.out HBx7.out HBp7.out (HXI.out.below HW7.out)).mono (fun e w' ⟨ad, cd, h1, h2, h3⟩ => ⟨aub, cub, ad, cd, by rw [← hxw]; exact h1, by rw [← hxw]; exact h2, h3⟩)
      clear hxw; unfold modV at HC; go_wp2_with (fail)
      refine HC.out.mono ?_; rintro e v8 ⟨auw, cuw, adw, cdw, rfl, hmx, hbm⟩; have hal := qalloc v8 (.cells (mA xw auw cuw adw cdw) 25); have hbn := qtrans hbm hal; have HBXw := lH (CBox.new v8 25 (mA xw auw cuw adw cdw)); have HMXw := lH (hmx.below hal); have HBb8 := lH (HBb7.out.below hbn); have HBn8 := lH (HBn7.out.below hbn); have HBx8 := lH (HBx7.out.below hbn); have HBp8 := lH (HBp7.out.below hbn); have HBk8 := lH (HBk7.out.below hbn); have HW8 := lH (HW7.out.trans (hbn.mono HW7.out.size)); have HBXl := lH (HBXl.out.below hbn); have HMXl := lH (HMXl.out.below hbn)
      have HBXr := lH (HBXr.out.below hbn); have HMXr := lH (HMXr.out.below hbn); clear HBb7 HBn7 HBx7 HBp7 HBk7 HW7; go_upto_region 8 with (fail)
      clear hal hbn hbm hmx HC; generalize World.alloc v8 _ = w8 at *; generalize v8.heap.size = Nw at *; obtain ⟨z0, z1, z2, zl⟩ := cells3 HBXl.out; have HCK := lH (bCheck_any xl aul cul adl cdl w8 (reads_strs.1 HMXl.out.uses).1 HMXl.out.decls HSXl.out.1); unfold modV at HCK; obtain ⟨el, hel⟩ : ∃ q, modErr xl = q := ⟨_, rfl⟩; have HEl := lH hel; rw [hel] at HCK; clear hel
      by_cases hzl : el = 0
      rotate_left
      ·have hzz : (el != 0) = true := by simp [hzl]
       clear hzl; go_wp2_with (fail)
       refine HCK.out.mono ?_; rintro e w9 ⟨rfl, hbk⟩; have HW9 := lH (HW8.out.trans (hbk.mono HW8.out.size)); go_wp2_with (fail)
       refine (HAW.out _).mono ?_; rintro e wz ⟨rfl, hbz⟩; go_wp2; go_ret; exact ⟨rfl, HW9.out.trans (hbz.mono HW9.out.size)⟩
      have hzz : (el != 0) = false := by simp [hzl]
      have HZl := lH hzl; clear hzl; go_wp2_with (fail)
      refine HCK.out.mono ?_; rintro e w9 ⟨rfl, hbk⟩; have HBb9 := lH (HBb8.out.below hbk); have HBn9 := lH (HBn8.out.below hbk); have HBx9 := lH (HBx8.out.below hbk); have HBp9 := lH (HBp8.out.below hbk); have HBk9 := lH (HBk8.out.below hbk); have HW9 := lH (HW8.out.trans (hbk.mono HW8.out.size)); have HBXl := lH (HBXl.out.below hbk); have HMXl := lH (HMXl.out.below hbk); have HBXr := lH (HBXr.out.below hbk); have HMXr := lH (HMXr.out.below hbk); have HBXw := lH (HBXw.out.below hbk); have HMXw := lH (HMXw.out.below hbk); clear HBb8 HBn8 HBx8 HBp8 HBk8 HW8
      clear hbk HCK z0 z1 z2 zl; have hzl := hzz; clear hzz; obtain ⟨z0, z1, z2, zl⟩ := cells3 HBXr.out; have HCK := lH (bCheck_any xr aur cur adr cdr w9 (reads_strs.1 HMXr.out.uses).1 HMXr.out.decls HSXr.out.1); unfold modV at HCK; obtain ⟨er, her⟩ : ∃ q, modErr xr = q := ⟨_, rfl⟩; have HEr := lH her; rw [her] at HCK; clear her
      by_cases hzr : er = 0
      rotate_left
      ·have hzz : (er != 0) = true := by simp [hzr]
       clear hzr; go_wp2_with (fail)
       refine HCK.out.mono ?_; rintro e w10 ⟨rfl, hbk⟩; have HW10 := lH (HW9.out.trans (hbk.mono HW9.out.size)); go_wp2_with (fail)
       refine (HAW.out _).mono ?_; rintro e wz ⟨rfl, hbz⟩; go_wp2; go_ret; exact ⟨rfl, HW10.out.trans (hbz.mono HW10.out.size)⟩
      have hzz : (er != 0) = false := by simp [hzr]
      have HZr := lH hzr; clear hzr; go_wp2_with (fail)
      refine HCK.out.mono ?_; rintro e w10 ⟨rfl, hbk⟩; have HBb10 := lH (HBb9.out.below hbk); have HBn10 := lH (HBn9.out.below hbk); have HBx10 := lH (HBx9.out.below hbk); have HBp10 := lH (HBp9.out.below hbk); have HBk10 := lH (HBk9.out.below hbk); have HW10 := lH (HW9.out.trans (hbk.mono HW9.out.size)); have HBXl := lH (HBXl.out.below hbk); have HMXl := lH (HMXl.out.below hbk); have HBXr := lH (HBXr.out.below hbk); have HMXr := lH (HMXr.out.below hbk); have HBXw := lH (HBXw.out.below hbk); have HMXw := lH (HMXw.out.below hbk); clear HBb9 HBn9 HBx9 HBp9 HBk9 HW9
      clear hbk HCK z0 z1 z2 zl; have hzr := hzz; clear hzz; have hvb := (cleanB_ok HCb.out).1; have hfm := fields_merge hvb HDK.out (by rw [HXl.out]; exact HEl.out.trans HZl.out) (by rw [HXr.out]; exact HEr.out.trans HZr.out); rw [HXl.out, HXr.out, HXw.out] at hfm; have HFM := lH hfm; have HFS := lH (fields_spots (b := b) (k := k) (d := d) (s := s) (x := x) (p := p) HCb.out); clear hvb hfm; obtain ⟨yb0, yb1, yb2, ybl⟩ := cells3 HBb10.out; obtain ⟨zr0, zr1, zr2, zrl⟩ := cells3 HBXr.out; obtain ⟨zl0, zl1, zl2, zll⟩ := cells3 HBXl.out
      have HC := lH (mMerge_any b xl xr aub aul aur adb adl adr cub cul cur cdb cdl cdr [] w10 (by simp) ⟨HMb.out.below HW10.out, HSb.out.1, HSb.out.2⟩ ⟨HMXl.out, HSXl.out.1, HSXl.out.2⟩ ⟨HMXr.out, HSXr.out.1, HSXr.out.2⟩); unfold modV at HC; obtain ⟨qa, hqa⟩ : ∃ q, mergeMErr b xl xr = q := ⟨_, rfl⟩; obtain ⟨xa, hxa⟩ : ∃ x, mergeM b xl xr = x := ⟨_, rfl⟩; have HQa := lH hqa; have HXa := lH hxa; clear hqa hxa; go_wp2_with (fail)
      refine HC.out.mono ?_; rintro e v11 ⟨aua, cua, ada, cda, rfl, hmx, hbm⟩; clear HC yb0 yb1 yb2 ybl zr0 zr1 zr2 zrl zl0 zl1 zl2 zll; rw [HQa.out, HXa.out]; rw [HXa.out] at hmx; unfold modV; have hal := qalloc v11 (.cells (mA xa aua cua ada cda) 25); have hbn := qtrans hbm hal; have HBXa := lH (CBox.new v11 25 (mA xa aua cua ada cda)); have HMXa := lH (hmx.below hal); have HBb11 := lH (HBb10.out.below hbn); have HBn11 := lH (HBn10.out.below hbn); have HBx11 := lH (HBx10.out.below hbn); have HBp11 := lH (HBp10.out.below hbn); have HBk11 := lH (HBk10.out.below hbn)
      have HW11 := lH (HW10.out.trans (hbn.mono HW10.out.size)); have HBXl := lH (HBXl.out.below hbn); have HMXl := lH (HMXl.out.below hbn); have HBXr := lH (HBXr.out.below hbn); have HMXr := lH (HMXr.out.below hbn); have HBXw := lH (HBXw.out.below hbn); have HMXw := lH (HMXw.out.below hbn); clear HBb10 HBn10 HBx10 HBp10 HBk10 HW10; go_upto_region 11 with (fail)
      clear hal hbn hbm hmx; generalize World.alloc v11 _ = w11 at *; generalize v11.heap.size = Na at *; obtain ⟨yb0, yb1, yb2, ybl⟩ := cells3 HBb11.out; obtain ⟨zr0, zr1, zr2, zrl⟩ := cells3 HBXr.out; obtain ⟨zl0, zl1, zl2, zll⟩ := cells3 HBXl.out; have HC := lH (mMerge_any b xr xl aub aur aul adb adr adl cub cur cul cdb cdr cdl [] w11 (by simp) ⟨HMb.out.below HW11.out, HSb.out.1, HSb.out.2⟩ ⟨HMXr.out, HSXr.out.1, HSXr.out.2⟩ ⟨HMXl.out, HSXl.out.1, HSXl.out.2⟩); unfold modV at HC; obtain ⟨qc, hqc⟩ : ∃ q, mergeMErr b xr xl = q := ⟨_, rfl⟩
      obtain ⟨xc, hxc⟩ : ∃ x, mergeM b xr xl = x := ⟨_, rfl⟩; have HQc := lH hqc; have HXc := lH hxc; clear hqc hxc; go_wp2_with (fail)
      refine HC.out.mono ?_; rintro e v12 ⟨auc, cuc, adc, cdc, rfl, hmx, hbm⟩; clear HC yb0 yb1 yb2 ybl zr0 zr1 zr2 zrl zl0 zl1 zl2 zll; rw [HQc.out, HXc.out]; rw [HXc.out] at hmx; unfold modV; have hal := qalloc v12 (.cells (mA xc auc cuc adc cdc) 25); have hbn := qtrans hbm hal; have HBXc := lH (CBox.new v12 25 (mA xc auc cuc adc cdc)); have HMXc := lH (hmx.below hal); have HBb12 := lH (HBb11.out.below hbn); have HBn12 := lH (HBn11.out.below hbn); have HBx12 := lH (HBx11.out.below hbn); have HBp12 := lH (HBp11.out.below hbn); have HBk12 := lH (HBk11.out.below hbn)
      have HW12 := lH (HW11.out.trans (hbn.mono HW11.out.size)); have HBXl := lH (HBXl.out.below hbn); have HMXl := lH (HMXl.out.below hbn); have HBXr := lH (HBXr.out.below hbn); have HMXr := lH (HMXr.out.below hbn); have HBXw := lH (HBXw.out.below hbn); have HMXw := lH (HMXw.out.below hbn); have HBXa := lH (HBXa.out.below hbn); have HMXa := lH (HMXa.out.below hbn); clear HBb11 HBn11 HBx11 HBp11 HBk11 HW11; go_upto_region 12 with (fail)
      clear hal hbn hbm hmx; generalize World.alloc v12 _ = w12 at *; generalize v12.heap.size = Nc at *; have k1 : qa = 0 := HQa.out.symm.trans HFM.out.2.1.1; have k2 : qc = 0 := HQc.out.symm.trans HFM.out.2.2.1; have k3 : xa = xw := HXa.out.symm.trans HFM.out.2.1.2; have k4 : xc = xw := HXc.out.symm.trans HFM.out.2.2.2; have HVW := lH HFM.out.1; clear HQa HQc HXa HXc HFM; subst k1 k2; subst xa; subst xc; obtain ⟨y0, y1, y2, yl⟩ := cells3 HBXa.out; obtain ⟨z0, z1, z2, zl⟩ := cells3 HBXw.out
      have HS9 := lH (r24Same_any xw xw aua ada auw adw cua cda cuw cdw w12 HMXa.out HMXw.out (fun d hd => ⟨(HSXw.out.1.decls d hd).len, HSXw.out.2 d hd⟩) HSXw.out.1.ulen HSXw.out.1.dlen); unfold modV at HS9; rw [sameM_iff.2 rfl] at HS9; go_wp2_with (fail)
      refine HS9.out.mono ?_; rintro e w13 ⟨rfl, hbs⟩; have HBb13 := lH (HBb12.out.below hbs); have HBn13 := lH (HBn12.out.below hbs); have HBx13 := lH (HBx12.out.below hbs); have HBp13 := lH (HBp12.out.below hbs); have HBk13 := lH (HBk12.out.below hbs); have HW13 := lH (HW12.out.trans (hbs.mono HW12.out.size)); have HBXw := lH (HBXw.out.below hbs); have HMXw := lH (HMXw.out.below hbs); have HBXa := lH (HBXa.out.below hbs); have HMXa := lH (HMXa.out.below hbs); have HBXc := lH (HBXc.out.below hbs); have HMXc := lH (HMXc.out.below hbs); clear HBb12 HBn12 HBx12 HBp12 HBk12 HW12
      clear HS9 hbs y0 y1 y2 yl z0 z1 z2 zl; obtain ⟨y0, y1, y2, yl⟩ := cells3 HBXc.out; obtain ⟨z0, z1, z2, zl⟩ := cells3 HBXw.out; have HS9 := lH (r24Same_any xw xw auc adc auw adw cuc cdc cuw cdw w13 HMXc.out HMXw.out (fun d hd => ⟨(HSXw.out.1.decls d hd).len, HSXw.out.2 d hd⟩) HSXw.out.1.ulen HSXw.out.1.dlen); unfold modV at HS9; rw [sameM_iff.2 rfl] at HS9; go_wp2_with (fail)
      refine HS9.out.mono ?_; rintro e w14 ⟨rfl, hbs⟩; have HBb14 := lH (HBb13.out.below hbs); have HBn14 := lH (HBn13.out.below hbs); have HBx14 := lH (HBx13.out.below hbs); have HBp14 := lH (HBp13.out.below hbs); have HBk14 := lH (HBk13.out.below hbs); have HW14 := lH (HW13.out.trans (hbs.mono HW13.out.size)); have HBXw := lH (HBXw.out.below hbs); have HMXw := lH (HMXw.out.below hbs); have HBXa := lH (HBXa.out.below hbs); have HMXa := lH (HMXa.out.below hbs); clear HBb13 HBn13 HBx13 HBp13 HBk13 HW13; clear HS9 hbs y0 y1 y2 yl z0 z1 z2 zl
      have HSP : Hid (spotsM xw = spotsL b.label (b.decls.set k (nameD (bodyD d x p) s))) := by show spotsM xw = _; unfold spotsM; rw [HVW.out, if_pos rfl, ← HXw.out]; rfl
      have HMC := lH (mConflicts_any xw aua cua ada cda w14 HMXa.out HSXw.out.1); unfold modV at HMC; rw [HSP.out] at HMC; obtain ⟨y0, y1, y2, yl⟩ := cells3 HBXa.out; generalize spotsL b.label (b.decls.set k (nameD (bodyD d x p) s)) = L at *; go_wp2_with (fail)
      refine HMC.out.mono ?_; rintro e w15 ⟨v, rfl, hrd, hb15⟩; obtain ⟨sa, sc, rfl, hl1, hl2⟩ := hrd.val; have hLb : L.length ≤ 9223372036854775807 := Nat.le_trans hl1 hl2; clear hl1 hl2; have HBb15 := lH (HBb14.out.below hb15); have HBn15 := lH (HBn14.out.below hb15); have HBx15 := lH (HBx14.out.below hb15); have HBp15 := lH (HBp14.out.below hb15); have HBk15 := lH (HBk14.out.below hb15); have HW15 := lH (HW14.out.trans (hb15.mono HW14.out.size)); clear HBb14 HBn14 HBx14 HBp14 HBk14 HW14; have HRD := lH hrd; clear hb15 HMC hrd y0 y1 y2 yl; go_wp2
      go_loopw [106] (fun iv wr => ∃ i : Nat, i ≤ L.length ∧ iv = .int .i64 i ∧ Hid (Bw w15 wr)) (fun iv _ => L.length - (intOf iv).toNat)
      case atStart => exact ⟨0, Nat.zero_le _, rfl, qrefl _⟩
      case round =>
       obtain ⟨i, hil, rfl, HBW⟩ := hrel; have HWr := lH (HW15.out.trans (HBW.out.mono HW15.out.size))
       by_cases hi : i < L.length
       ·have hd3 : decide ((i : Int) < (L.length : Int)) = true := decide_eq_true (by omega)
        have hir : (i : Int) < (L.length : Int) := by omega
        obtain ⟨q, hq⟩ : ∃ q, L[i]? = some q := ⟨_, List.getElem?_eq_getElem hi⟩; obtain ⟨sb, so, rfl, hsb, s0, s1, s2, s3⟩ := spots_elem (HRD.out.below HBW.out) hq; obtain ⟨hq1, hq2⟩ := HFS.out q (List.mem_of_getElem? hq); have hk1 : (q.kind == 1) = false := by simpa using hq1
        have hal := qalloc wr (.cells #[.string q.pack, .int .i64 q.kind, .int .i64 q.id, .int .i64 q.pos] 51); have gs := CBox.new wr 51 #[.string q.pack, .int .i64 q.kind, .int .i64 q.id, .int .i64 q.pos]; go_upto_region 17 with (fail)
        have HBV : Hid (Bw w15 _) := HBW.out.trans (hal.mono HBW.out.size); generalize World.alloc wr _ = wv at *; generalize wr.heap.size = NS at gs ⊢; clear hal hsb s0 s1 s2 s3 hq; have g1 := gs.cell (i := 1) (v := .int .i64 q.kind) rfl; have gl := gs.lt
        by_cases h2 : q.kind = 2
        ·have hk2 : (q.kind == 2) = true := by simpa using h2
         have HXZ := lH (hq2 h2); have HXC := lH (xClean_any x ax cx wv (HXI.out.below (HW15.out.trans (HBV.out.mono HW15.out.size))).subs HXN2.out); unfold exV at HXC; rw [decide_eq_false HXZ.out] at HXC; clear h2 hq1 hq2; obtain ⟨x0, x1, x2, x3, x4, x5, xl⟩ := cells6 (HBx15.out.below HBV.out); go_wp2_with (fail)
         refine HXC.out.mono ?_; rintro e wy ⟨rfl, hby⟩; have HBY : Hid (Bw w15 wy) := HBV.out.trans (hby.mono HBV.out.size); clear g1 gl gs hby HXC x0 x1 x2 x3 x4 x5 xl; go_wp2; go_roundw
         case rel => exact ⟨i + 1, by omega, by go_num, HBY⟩
         case measure => simp [intOf]; omega
        ·have hk2 : (q.kind == 2) = false := by simpa using h2
         clear h2 hq1 hq2; go_wp2; go_roundw
         case rel => exact ⟨i + 1, by omega, by go_num, HBV⟩
         case measure => simp [intOf]; omega
       ·have hd3 : decide ((i : Int) < (L.length : Int)) = false := decide_eq_false (by omega)
        go_wp2_with (fail)
        refine (HAW.out _).mono ?_; rintro e wz ⟨rfl, hbz⟩; go_wp2; go_ret; exact ⟨rfl, HWr.out.trans (hbz.mono HWr.out.size)⟩
end Go.Proofs.YtlgnedahnaojlaaGreatDoor

