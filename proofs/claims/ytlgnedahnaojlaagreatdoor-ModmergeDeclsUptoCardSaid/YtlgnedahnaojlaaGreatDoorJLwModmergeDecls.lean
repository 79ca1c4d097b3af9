/- The law ModmergeDecls, walked: it returns true. -/
import Derived.Test.YtlgnedahnaojlaaGreatDoorJGE
import Derived.Test.YtlgnedahnaojlaaGreatDoorJYI
namespace Go.Proofs.YtlgnedahnaojlaaGreatDoor
open Go.RowKit Go.Shelf
attribute [local go_sem] Oper.semAt_some

theorem uses_in {b l r : List ByteArray} {s : ByteArray} (h1 : s ∈ l) (h2 : s ∈ r) : memS s (usesM b l r) = true := memS_iff.2 (mem_usesM.2 ⟨.inl h1, by
  rw [memS_iff.2 h1, memS_iff.2 h2]
  unfold truthB
  cases memS s b <;> rfl⟩)
theorem uses_from {b l r : List ByteArray} {s : ByteArray} (h : s ∈ usesM b l r) (h1 : memS s l = false) : memS s r = true := by
  rcases (mem_usesM.1 h).1 with h2 | h2
  · rw [memS_iff.2 h2] at h1; cases h1
  · exact memS_iff.2 h2
theorem onlyM_sm {m : OMod} (h : SmN m) (id : Int) : SmN (onlyM m id) := ⟨⟨h.1.label, fun s hs => by simp [onlyM] at hs, by simp [onlyM], fun d hd => h.1.decls d (List.mem_filter.1 hd).1, Nat.le_trans (List.length_filter_le _ _) h.1.dlen⟩, fun d hd => h.2 d (List.mem_filter.1 hd).1⟩
/-- The merge of what is left of three modules. -/
def R8D (b l r x : OMod) (id q : Int) (X : List Nat) (i : Nat) (v : Value) (w : World) : Prop := match i with
  | 0 => MoR X b v w
  | 1 | 4 | 7 => v = .int .i64 id
  | 2 => MoR X (onlyM b id) v w
  | 3 => MoR X l v w
  | 5 => MoR X (onlyM l id) v w
  | 6 => MoR X r v w
  | 8 => MoR X (onlyM r id) v w
  | 9 => MqR X x q v w
  | 10 => MqR X x q v w
  | 11 => MoR X x v w
  | 12 => v = .int .i64 q
  | _ => True
section
variable {b l r x : OMod} {id q : Int}
theorem R8D_below {X : List Nat} {i : Nat} {v : Value} {w w' : World} (h : R8D b l r x id q X i v w) (k : Below w.heap.size w w') : R8D b l r x id q X i v w' := by
  unfold R8D at *
  split at h <;> first | exact h | exact h.below k
theorem R8D_more {i k : Nat} {v : Value} {w : World} (h : R8D b l r x id q [] i v w) (hk : w.heap.size ≤ k) : R8D b l r x id q [k] i v w := by
  unfold R8D at *
  split at h <;> first | exact h | exact h.more hk
theorem R8D_mod {i k : Nat} {v : Value} {w w' : World} (h : R8D b l r x id q [k] i v w) (m : Mod [k] w w') : R8D b l r x id q [k] i v w' := by
  unfold R8D at *
  split at h <;> first | exact h | exact h.mod m
end
theorem st_only {fa : Act} {w : World} {K : Act → World → Prop} {Q : Exit → Act → World → Prop} {o : Oper} {X : List Nat} {ao io : Operand} {m : OMod} {id : Int} {ats : Array TypeId} (ho : o.op = .call { callee := .value (.func 20), args := #[ao, io], argTypes := ats })
    (hX : ∀ k, k ∈ X → k < w.heap.size) (hx : MoR X m (fa.eval ao) w) (hi : fa.eval io = .int .i64 id) (hn : m.decls.length ≤ 1000000) (hK : ∀ v w', Below w.heap.size w w' → MoR X (onlyM m id) v w' → K (fa.put o.dst v) w') : Oper.wp Tryz.prog o fa w K Q := by
  obtain ⟨au, cu, ad, cd, e, h⟩ := hx
  refine opw_call (f := 20) (vs := #[modV m au cu ad cd, .int .i64 id]) ho rfl ?_ (enters_of Tryz.func20 (by kernel_rfl) rfl) ?_
  · rw [← e, ← hi]; simp only [List.map_toArray, List.map_cons, List.map_nil]
  · refine (only33_any m id au ad cu cd X w hX h hn).mono ?_
    rintro e w' ⟨ad', cd', rfl, hm, hb⟩
    exact ⟨_, rfl, hK _ _ hb ⟨_, _, _, _, rfl, hm⟩⟩
theorem opw_neqI {fa : Act} {w : World} {K : Act → World → Prop} {Q : Exit → Act → World → Prop} {o : Oper} {x y : Operand} {i j : Int} {b : Bool} {t : TypeId} (ho : o.op = .binOp .neq 28 x y t) (hx : fa.eval x = .int .i64 i) (hy : fa.eval y = .int .i64 j) (hb : (i != j) = b) (h : K (fa.put o.dst (.bool b)) w) : Oper.wp Tryz.prog o fa w K Q := by
  unfold Oper.wp execOp
  simp only [ho, hx, hy]
  simp [go_sem, hb]
  exact h
/-- The second look at the merge. -/
def R9D (xm : OMod) (id : Int) (i : Nat) (v : Value) (w : World) : Prop := match i with
  | 0 => v = .int .i64 0
  | 1 | 2 | 8 => v = .bool false
  | 3 => MoR [] xm v w
  | 4 => v = .int .i64 id
  | 5 | 6 => MoR [] (onlyM xm id) v w
  | 7 => v = .bool true
  | _ => True
theorem R9D_below {xm : OMod} {id : Int} {i : Nat} {v : Value} {w w' : World} (h : R9D xm id i v w) (k : Below w.heap.size w w') : R9D xm id i v w' := by
  unfold R9D at *
  split at h <;> first | exact h | exact h.below k
theorem mod_fresh {w : World} {m : OMod} {au ad : Option Addr} {cu cd : Nat} (h : ModIn w [] m au cu ad cd) : ∀ X : List Nat, (∀ k, k ∈ X → w.heap.size ≤ k) → ModIn w X m au cu ad cd
  | [], _ => h
  | k :: X, hX => (mod_fresh h X (fun j hj => hX j (List.mem_cons_of_mem _ hj))).more (hX k (List.mem_cons_self ..))
theorem three_mods {w : World} {B : Nat} {b l r : OMod} {aub adb aul adl aur adr : Option Addr} {cub cdb cul cdl cur cdr : Nat} (h : CBox w B 25 #[.string b.label, .slice aub b.uses.length cub, .slice adb b.decls.length cdb, .string l.label, .slice aul l.uses.length cul, .slice adl l.decls.length cdl, .string r.label, .slice aur r.uses.length cur, .slice adr r.decls.length cdr]) (hb : ModIn w [] b aub cub adb cdb) (hl : ModIn w [] l aul cul adl cdl) (hr : ModIn w [] r aur cur adr cdr) : ModsAt w B [b, l, r] :=
  ⟨h.lt, fun i x hi => by
    match i, hi with
    | 0, hi => injection hi with hi; subst hi; exact ⟨_, _, _, _, hb, h.cell (i := 0) rfl, h.cell (i := 1) rfl, h.cell (i := 2) rfl⟩
    | 1, hi => injection hi with hi; subst hi; exact ⟨_, _, _, _, hl, h.cell (i := 3) rfl, h.cell (i := 4) rfl, h.cell (i := 5) rfl⟩
    | 2, hi => injection hi with hi; subst hi; exact ⟨_, _, _, _, hr, h.cell (i := 6) rfl, h.cell (i := 7) rfl, h.cell (i := 8) rfl⟩
    | (i + 3), hi => simp at hi⟩
set_option maxRecDepth 100000 in
set_option maxHeartbeats 8000000 in
theorem LModmergeDecls_any (b l r : OMod) (id : Int) (aub adb aul adl aur adr : Option Addr) (cub cdb cul cdl cur cdr : Nat) (w : World) (hb : ModIn w [] b aub cub adb cdb) (hl : ModIn w [] l aul cul adl cdl) (hr : ModIn w [] r aur cur adr cdr) (hbb : BigM b) (hbl : BigM l) (hbr : BigM r) :
    Calls Tryz.prog 6 #[modV b aub cub adb cdb, modV l aul cul adl cdl, modV r aur cur adr cdr, .int .i64 id] w fun e w' => e = .returned (.bool true) ∧ Below w.heap.size w w' := by
  obtain ⟨gb, gl, gr, hA, hs3⟩ := three_boxes w 25 #[.string b.label, .slice aub b.uses.length cub, .slice adb b.decls.length cdb] #[.string l.label, .slice aul l.uses.length cul, .slice adl l.decls.length cdl] #[.string r.label, .slice aur r.uses.length cur, .slice adr r.decls.length cdr]
  have HMb := Lib.hid hb
  have HMl := Lib.hid hl
  have HMr := Lib.hid hr
  have HGb := Lib.hid hbb
  have HGl := Lib.hid hbl
  have HGr := Lib.hid hbr
  have HAW := Lib.hid awake33_any
  clear hb hl hr hbb hbl hbr
  unfold modV
  go_enter Tryz.func6, Tryz.ntmps6
  go_upto_region 1 with (fail)
  generalize ((w.alloc (.cells #[.string b.label, .slice aub b.uses.length cub, .slice adb b.decls.length cdb] 25)).alloc (.cells #[.string l.label, .slice aul l.uses.length cul, .slice adl l.decls.length cdl] 25)).alloc (.cells #[.string r.label, .slice aur r.uses.length cur, .slice adr r.decls.length cdr] 25) = W0 at *
  clear hs3
  obtain ⟨R, hR⟩ : ∃ R, w.heap.size + 1 + 1 = R := ⟨_, rfl⟩
  rw [hR] at gr ⊢
  obtain ⟨M, hM⟩ : ∃ M, w.heap.size + 1 = M := ⟨_, rfl⟩
  rw [hM] at gl ⊢
  clear hR
  obtain ⟨B, hB⟩ : ∃ B, w.heap.size = B := ⟨_, rfl⟩
  rw [hB] at gb ⊢
  clear hM hB
  have HW0 := Lib.hid hA
  have HBb0 := Lib.hid gb
  have HBl0 := Lib.hid gl
  have HBr0 := Lib.hid gr
  clear hA gb gl gr
  have yb0 := (HBb0.out).cell (i := 0) (v := .string b.label) rfl
  have yb1 := (HBb0.out).cell (i := 1) (v := .slice aub b.uses.length cub) rfl
  have yb2 := (HBb0.out).cell (i := 2) (v := .slice adb b.decls.length cdb) rfl
  have ybl := (HBb0.out).lt
  have yl0 := (HBl0.out).cell (i := 0) (v := .string l.label) rfl
  have yl1 := (HBl0.out).cell (i := 1) (v := .slice aul l.uses.length cul) rfl
  have yl2 := (HBl0.out).cell (i := 2) (v := .slice adl l.decls.length cdl) rfl
  have yll := (HBl0.out).lt
  have yr0 := (HBr0.out).cell (i := 0) (v := .string r.label) rfl
  have yr1 := (HBr0.out).cell (i := 1) (v := .slice aur r.uses.length cur) rfl
  have yr2 := (HBr0.out).cell (i := 2) (v := .slice adr r.decls.length cdr) rfl
  have yrl := (HBr0.out).lt
  have hal := qalloc W0 (.cells #[.string b.label, .slice aub b.uses.length cub, .slice adb b.decls.length cdb, .string l.label, .slice aul l.uses.length cul, .slice adl l.decls.length cdl, .string r.label, .slice aur r.uses.length cur, .slice adr r.decls.length cdr] 25)
  have hw1 := HW0.out.trans (hal.mono HW0.out.size)
  have HG := Lib.hid (great33_any [b, l, r] W0.heap.size _ (three_mods (CBox.new W0 25 #[.string b.label, .slice aub b.uses.length cub, .slice adb b.decls.length cdb, .string l.label, .slice aul l.uses.length cul, .slice adl l.decls.length cdl, .string r.label, .slice aur r.uses.length cur, .slice adr r.decls.length cdr]) (HMb.out.below hw1) (HMl.out.below hw1) (HMr.out.below hw1)) (by
    intro x hx
    simp only [List.mem_cons, List.not_mem_nil, or_false] at hx
    rcases hx with rfl | rfl | rfl
    · exact HGb.out
    · exact HGl.out
    · exact HGr.out) (by simp))
  have HGF : Hid ([b, l, r].any greatM = false → SmN b ∧ SmN l ∧ SmN r) := fun h => by
    simp only [List.any_cons, List.any_nil, Bool.or_false, Bool.or_eq_false_iff] at h
    exact ⟨smM_of HGb.out h.1, smM_of HGl.out h.2.1, smM_of HGr.out h.2.2⟩
  have HAL := Lib.hid hal
  clear hal hw1
  generalize [b, l, r].any greatM = q at *
  cases q with
  | true =>
    go_wp2_with (fail)
    refine HG.out.mono ?_
    rintro e w2 ⟨rfl, hb2⟩
    have HW2 := Lib.hid (HW0.out.trans ((HAL.out.trans (hb2.mono HAL.out.size)).mono HW0.out.size))
    go_wp2_with (fail)
    refine (HAW.out _).mono ?_
    rintro e wz ⟨rfl, hbz⟩
    go_wp2
    go_ret
    exact ⟨rfl, HW2.out.trans (hbz.mono HW2.out.size)⟩
  | false =>
    obtain ⟨sb, sl, sr⟩ := HGF.out rfl
    have HSb := Lib.hid sb
    have HSl := Lib.hid sl
    have HSr := Lib.hid sr
    clear sb sl sr HGF
    go_wp2_with (fail)
    refine HG.out.mono ?_
    rintro e w2 ⟨rfl, hb2⟩
    have hb02 := HAL.out.trans (hb2.mono HAL.out.size)
    have HBb2 := Lib.hid (HBb0.out.below hb02)
    have HBl2 := Lib.hid (HBl0.out.below hb02)
    have HBr2 := Lib.hid (HBr0.out.below hb02)
    have HW2 := Lib.hid (HW0.out.trans (hb02.mono HW0.out.size))
    clear HBb0 HBl0 HBr0 HW0
    clear hb2 hb02 HAL HG yb0 yb1 yb2 ybl yl0 yl1 yl2 yll yr0 yr1 yr2 yrl
    have yb0 := (HBb2.out).cell (i := 0) (v := .string b.label) rfl
    have yb1 := (HBb2.out).cell (i := 1) (v := .slice aub b.uses.length cub) rfl
    have yb2 := (HBb2.out).cell (i := 2) (v := .slice adb b.decls.length cdb) rfl
    have ybl := (HBb2.out).lt
    have yl0 := (HBl2.out).cell (i := 0) (v := .string l.label) rfl
    have yl1 := (HBl2.out).cell (i := 1) (v := .slice aul l.uses.length cul) rfl
    have yl2 := (HBl2.out).cell (i := 2) (v := .slice adl l.decls.length cdl) rfl
    have yll := (HBl2.out).lt
    have yr0 := (HBr2.out).cell (i := 0) (v := .string r.label) rfl
    have yr1 := (HBr2.out).cell (i := 1) (v := .slice aur r.uses.length cur) rfl
    have yr2 := (HBr2.out).cell (i := 2) (v := .slice adr r.decls.length cdr) rfl
    have yrl := (HBr2.out).lt
    have HC := Lib.hid (mMerge_any b l r aub aul aur adb adl adr cub cul cur cdb cdl cdr [] w2 (by simp) ⟨HMb.out.below HW2.out, HSb.out.1, HSb.out.2⟩ ⟨HMl.out.below HW2.out, HSl.out.1, HSl.out.2⟩ ⟨HMr.out.below HW2.out, HSr.out.1, HSr.out.2⟩)
    unfold modV at HC
    obtain ⟨qm, hqm⟩ : ∃ q, mergeMErr b l r = q := ⟨_, rfl⟩
    obtain ⟨xm, hxm⟩ : ∃ x, mergeM b l r = x := ⟨_, rfl⟩
    have HQm := Lib.hid hqm
    have HXm := Lib.hid hxm
    clear hqm hxm
    go_wp2_with (fail)
    refine HC.out.mono ?_
    rintro e v3 ⟨aum, cum, adm, cdm, rfl, hmx, hbm⟩
    clear HC yb0 yb1 yb2 ybl yl0 yl1 yl2 yll yr0 yr1 yr2 yrl 
    rw [HQm.out, HXm.out]
    rw [HXm.out] at hmx
    unfold modV
    have hal := qalloc v3 (.cells #[.string xm.label, .slice aum xm.uses.length cum, .slice adm xm.decls.length cdm] 25)
    have hbn := qtrans hbm hal
    have HBXm := Lib.hid (CBox.new v3 25 #[.string xm.label, .slice aum xm.uses.length cum, .slice adm xm.decls.length cdm])
    have HMXm := Lib.hid (hmx.below hal)
    have HBb3 := Lib.hid (HBb2.out.below hbn)
    have HBl3 := Lib.hid (HBl2.out.below hbn)
    have HBr3 := Lib.hid (HBr2.out.below hbn)
    have HW3 := Lib.hid (HW2.out.trans (hbn.mono HW2.out.size))
    clear HBb2 HBl2 HBr2 HW2
    go_upto_region 4 with (fail)
    clear hal hbn hbm hmx
    generalize v3.alloc (.cells #[.string xm.label, .slice aum xm.uses.length cum, .slice adm xm.decls.length cdm] 25) = w3 at *
    generalize v3.heap.size = Nm at *
    by_cases h0 : qm = 0
    · have hz : (qm != 0) = false := by simp [h0]
      have h00 : mergeMErr b l r = 0 := by rw [HQm.out, h0]
      have HSXm : Hid (SmN xm) := by show SmN xm; rw [← HXm.out]; exact mergeM_sm HSb.out HSl.out HSr.out h00
      have hxo : xm = outM b l r := by rw [← HXm.out]; unfold mergeM; rw [h00, if_pos rfl]
      have hv0 : modErr xm = 0 := by rw [hxo]; exact out_valid h00
      have HUS : Hid (xm.uses = usesM b.uses l.uses r.uses) := by show _ = _; rw [hxo]; rfl
      obtain ⟨eo, fo⟩ := only_merge h00 id
      rw [HXm.out] at fo
      have HEO := Lib.hid eo
      have HFO := Lib.hid fo
      have hva := valM (mergeMErr_inv h00).1
      have hvl := valM (mergeMErr_inv h00).2.1
      have hvr := valM (mergeMErr_inv h00).2.2.1
      have HLL : Hid (l.uses.length ≤ 20) := hvl.ulen
      have HRL : Hid (r.uses.length ≤ 20) := hvr.ulen
      have HXL : Hid (xm.uses.length ≤ 20) := (valM hv0).ulen
      clear hva hvl hvr
      have HCK := Lib.hid (bCheck_any xm aum cum adm cdm w3 (reads_strs.1 HMXm.out.uses).1 HMXm.out.decls HSXm.out.1)
      rw [hv0] at HCK
      unfold modV at HCK
      clear h0 h00 hxo hv0 eo fo
      have z0 := (HBXm.out).cell (i := 0) (v := .string xm.label) rfl
      have z1 := (HBXm.out).cell (i := 1) (v := .slice aum xm.uses.length cum) rfl
      have z2 := (HBXm.out).cell (i := 2) (v := .slice adm xm.decls.length cdm) rfl
      have zl := (HBXm.out).lt
      go_wp2_with (fail)
      refine HCK.out.mono ?_
      rintro e w4 ⟨rfl, hbc⟩
      have HBb4 := Lib.hid (HBb3.out.below hbc)
      have HBl4 := Lib.hid (HBl3.out.below hbc)
      have HBr4 := Lib.hid (HBr3.out.below hbc)
      have HW4 := Lib.hid (HW3.out.trans (hbc.mono HW3.out.size))
      have HBXm := Lib.hid (HBXm.out.below hbc)
      have HMXm := Lib.hid (HMXm.out.below hbc)
      clear HBb3 HBl3 HBr3 HW3
      clear hbc HCK z0 z1 z2 zl
      go_upto_region 8 with (fail)
      obtain ⟨qo, hqo⟩ : ∃ q, mergeMErr (onlyM b id) (onlyM l id) (onlyM r id) = q := ⟨_, rfl⟩
      obtain ⟨xo, hxo⟩ : ∃ x, mergeM (onlyM b id) (onlyM l id) (onlyM r id) = x := ⟨_, rfl⟩
      have HQo := Lib.hid hqo
      have HXo := Lib.hid hxo
      clear hqo hxo
      refine wp_region_noPanic (region_relF 15 13 14 11 (fun k W => CBox W k 25 #[.string ⟨#[]⟩, .slice none 0 0, .slice none 0 0]) (fun v k W => BxR v k W) (R8D b l r xo id qo) (by decide) (by decide) (by decide) (by decide) (by decide) (by decide) mixedK (by kernel_rfl) (fun _ _ _ h => h) (by kernel_rfl) ?_ (fun X i v w w' h k => R8D_below h k) (fun i v w k h hk => R8D_more h hk) (fun i v w w' k h m => R8D_mod h m) (fun k w w' h _ hb => h.below hb) (fun v k w w' ⟨v0, v1, v2, e, h⟩ _ hb => ⟨v0, v1, v2, e, h.below hb⟩) ?_ ?_ ?_ (by kernel_rfl) ?_)
      · intro o ho
        obtain rfl := Option.some.inj ho
        exact ⟨by decide, by decide⟩
      · intro o ho
        obtain rfl := Option.some.inj ho
        exact ⟨rfl, fun a w1 K hK => opw_allocM rfl (hK.out _ (qalloc _ _) (by rw [World.size_alloc]; omega) (CBox.new _ _ _))⟩
      · intro o ho
        obtain rfl := Option.some.inj ho
        refine ⟨rfl, fun fa vals w1 k hf hkl hvA hbx hC K hK => ?_⟩
        have e1 := hf.at_ 13 11 (by decide) rfl
        have e2 := hf.at_ 11 52 (by decide) rfl
        have hC2 : MoR [k] xo (vals 11) w1 := hC
        clear hf hC
        exact st_store rfl (e1.trans hvA) e2 hbx hC2 (fun v w' h1 h2 => hK.out v w' h1 h2)
      · show AllF _ _ _ _ _ _ _ _ 0 (_ :: _)
        refine AllF.step ?_ ?_
        · intro fa X vals w1 hf hbw hX hXb hn
          refine ⟨rfl, fun K hK => ?_⟩
          exact opw_loadM (x := .tmp 4) (B := _) rfl ((hf.out 4 (by kernel_rfl)).trans rfl) (HBb4.out.below hbw) (hK.out _ _ (qrefl _) ⟨_, _, _, _, rfl, (mod_fresh (HMb.out.below HW4.out) X hXb).below hbw⟩)
        refine AllF.step ?_ ?_
        · intro fa X vals w1 hf hbw hX hXb hn
          refine ⟨rfl, fun K hK => ?_⟩
          exact opw_move (x := .tmp 3) rfl (hK.out _ _ (qrefl _) ((hf.out 3 (by kernel_rfl)).trans rfl))
        refine AllF.step ?_ ?_
        · intro fa X vals w1 hf hbw hX hXb hn
          refine ⟨rfl, fun K hK => ?_⟩
          exact st_only (m := b) (id := id) rfl hX (by rw [(hf.at_ 0 42 (by decide) rfl)]; exact (hn 0 (by decide) (by decide))) (by rw [(hf.at_ 1 43 (by decide) rfl)]; exact (hn 1 (by decide) (by decide))) HSb.out.1.dlen (fun v w' hb hd => hK.out v w' hb hd)
        refine AllF.step ?_ ?_
        · intro fa X vals w1 hf hbw hX hXb hn
          refine ⟨rfl, fun K hK => ?_⟩
          exact opw_loadM (x := .tmp 5) (B := _) rfl ((hf.out 5 (by kernel_rfl)).trans rfl) (HBl4.out.below hbw) (hK.out _ _ (qrefl _) ⟨_, _, _, _, rfl, (mod_fresh (HMl.out.below HW4.out) X hXb).below hbw⟩)
        refine AllF.step ?_ ?_
        · intro fa X vals w1 hf hbw hX hXb hn
          refine ⟨rfl, fun K hK => ?_⟩
          exact opw_move (x := .tmp 3) rfl (hK.out _ _ (qrefl _) ((hf.out 3 (by kernel_rfl)).trans rfl))
        refine AllF.step ?_ ?_
        · intro fa X vals w1 hf hbw hX hXb hn
          refine ⟨rfl, fun K hK => ?_⟩
          exact st_only (m := l) (id := id) rfl hX (by rw [(hf.at_ 3 45 (by decide) rfl)]; exact (hn 3 (by decide) (by decide))) (by rw [(hf.at_ 4 46 (by decide) rfl)]; exact (hn 4 (by decide) (by decide))) HSl.out.1.dlen (fun v w' hb hd => hK.out v w' hb hd)
        refine AllF.step ?_ ?_
        · intro fa X vals w1 hf hbw hX hXb hn
          refine ⟨rfl, fun K hK => ?_⟩
          exact opw_loadM (x := .tmp 6) (B := _) rfl ((hf.out 6 (by kernel_rfl)).trans rfl) (HBr4.out.below hbw) (hK.out _ _ (qrefl _) ⟨_, _, _, _, rfl, (mod_fresh (HMr.out.below HW4.out) X hXb).below hbw⟩)
        refine AllF.step ?_ ?_
        · intro fa X vals w1 hf hbw hX hXb hn
          refine ⟨rfl, fun K hK => ?_⟩
          exact opw_move (x := .tmp 3) rfl (hK.out _ _ (qrefl _) ((hf.out 3 (by kernel_rfl)).trans rfl))
        refine AllF.step ?_ ?_
        · intro fa X vals w1 hf hbw hX hXb hn
          refine ⟨rfl, fun K hK => ?_⟩
          exact st_only (m := r) (id := id) rfl hX (by rw [(hf.at_ 6 48 (by decide) rfl)]; exact (hn 6 (by decide) (by decide))) (by rw [(hf.at_ 7 49 (by decide) rfl)]; exact (hn 7 (by decide) (by decide))) HSr.out.1.dlen (fun v w' hb hd => hK.out v w' hb hd)
        refine AllF.step ?_ ?_
        · intro fa X vals w1 hf hbw hX hXb hn
          refine ⟨rfl, fun K hK => ?_⟩
          refine st_merge (X := X) (b := onlyM b id) (l := onlyM l id) (r := onlyM r id) rfl hX (onlyM_sm HSb.out id) (onlyM_sm HSl.out id) (onlyM_sm HSr.out id) (by rw [(hf.at_ 2 44 (by decide) rfl)]; exact (hn 2 (by decide) (by decide))) (by rw [(hf.at_ 5 47 (by decide) rfl)]; exact (hn 5 (by decide) (by decide))) (by rw [(hf.at_ 8 50 (by decide) rfl)]; exact (hn 8 (by decide) (by decide))) (fun v w' hb hd => hK.out v w' hb ?_)
          rw [HQo.out, HXo.out] at hd
          exact hd
        refine AllF.step ?_ ?_
        · intro fa X vals w1 hf hbw hX hXb hn
          refine ⟨rfl, fun K hK => ?_⟩
          exact opw_move (x := .tmp 51) rfl (hK.out _ _ (qrefl _) (by rw [(hf.at_ 9 51 (by decide) rfl)]; exact (hn 9 (by decide) (by decide))))
        refine AllF.step ?_ ?_
        · intro fa X vals w1 hf hbw hX hXb hn
          refine ⟨rfl, fun K hK => ?_⟩
          obtain ⟨v1, e1, h1⟩ := (hn 10 (by decide) (by decide))
          exact opw_extract (x := .tmp 41) rfl ((hf.at_ 10 41 (by decide) rfl).trans e1) rfl (hK.out _ _ (qrefl _) h1)
        refine AllF.step ?_ ?_
        · intro fa X vals w1 hf hbw hX hXb hn
          refine ⟨rfl, fun K hK => ?_⟩
          obtain ⟨v1, e1, h1⟩ := (hn 10 (by decide) (by decide))
          exact opw_extract (x := .tmp 41) rfl ((hf.at_ 10 41 (by decide) rfl).trans e1) rfl (hK.out _ _ (qrefl _) rfl)
        refine AllF.skip ?_
        exact trivial
      · intro k8 vals w8 hbw hbk hkl hvA hbx hr
        obtain ⟨m0, m1, m2, em, hbox⟩ := hbx
        obtain ⟨auo, cuo, ado, cdo, e11, hmo⟩ := (hr 11 (by decide) (by decide) (by decide) : MoR [k8] xo (vals 11) w8)
        have e12 : vals 12 = .int .i64 qo := hr 12 (by decide) (by decide) (by decide)
        rw [e11] at em
        simp only [modV, Value.agg.injEq, Array.mk.injEq, List.cons.injEq, and_true] at em
        obtain ⟨rfl, rfl, rfl⟩ := em
        refine wpList_frame (h := by simp only [fullR, dstR, List.getElem?_toArray, List.getElem?_cons_succ, List.getElem?_cons_zero, Option.bind_some, Act.put, List.setIfInBounds_toArray, List.set_cons_zero, List.set_cons_succ, e12, hvA]; rfl) ?_
        have hxe := HXo.out.symm.trans HFO.out
        have hqe := HQo.out.symm.trans HEO.out
        have HBX8 := Lib.hid hbox
        have HM8 := Lib.hid (hmo.fewer (Y := []) (by simp))
        clear hr e12 e11 hvA hbox hmo hbk hkl HXo HQo HFO HEO
        subst hxe hqe
        generalize vals 0 = u80
        generalize vals 1 = u81
        generalize vals 2 = u82
        generalize vals 3 = u83
        generalize vals 4 = u84
        generalize vals 5 = u85
        generalize vals 6 = u86
        generalize vals 7 = u87
        generalize vals 8 = u88
        generalize vals 9 = u89
        generalize vals 10 = u810
        generalize vals 11 = u811
        generalize vals 14 = u814
        have HBb8 := Lib.hid (HBb4.out.below hbw)
        have HBl8 := Lib.hid (HBl4.out.below hbw)
        have HBr8 := Lib.hid (HBr4.out.below hbw)
        have HW8 := Lib.hid (HW4.out.trans (hbw.mono HW4.out.size))
        have HBXm := Lib.hid (HBXm.out.below hbw)
        have HMXm := Lib.hid (HMXm.out.below hbw)
        clear HBb4 HBl4 HBr4 HW4
        clear hbw
        simp only [List.drop_succ_cons, List.drop_zero]
        go_wp2
        refine NoPanic.normal ?_
        go_upto_region 9 with (fail)
        refine wp_region_noPanic (region_relQ 9 (R9D xm id) mixedK (by kernel_rfl) (fun _ _ _ h => h) (by kernel_rfl) (fun i v w w' h k => R9D_below h k) ?_ ?_)
        · show AllQ _ _ _ _ _ _ _ 0 (_ :: _)
          refine AllQ.step ?_ ?_
          · intro fa vals w1 hf hbw hn
            refine ⟨(fun _ _ e => by cases e), fun K hK => ?_⟩
            exact opw_move (x := .tmp 12) rfl (hK.out _ _ (qrefl _) ((hf.out 12 (by kernel_rfl)).trans rfl))
          refine AllQ.step ?_ ?_
          · intro fa vals w1 hf hbw hn
            refine ⟨(fun _ _ e => by cases e), fun K hK => ?_⟩
            exact opw_neqI rfl ((hf.at_ 0 54 (by decide) rfl).trans (hn 0 (by decide))) rfl rfl (hK.out _ _ (qrefl _) rfl)
          refine AllQ.step ?_ ?_
          · intro fa vals w1 hf hbw hn
            refine ⟨(fun _ _ e => by cases e), fun K hK => ?_⟩
            exact opw_move (x := .tmp 55) rfl (hK.out _ _ (qrefl _) ((hf.at_ 1 55 (by decide) rfl).trans (hn 1 (by decide))))
          refine AllQ.step ?_ ?_
          · intro fa vals w1 hf hbw hn
            refine ⟨(fun g b e => by obtain ⟨rfl, rfl⟩ := Prod.mk.inj (Option.some.inj e); exact ⟨by decide, ⟨_, rfl⟩, (hn 2 (by decide))⟩), fun K hK => ?_⟩
            exact opw_loadM (x := .tmp 9) (B := _) rfl ((hf.out 9 (by kernel_rfl)).trans rfl) (HBXm.out.below hbw) (hK.out _ _ (qrefl _) ⟨_, _, _, _, rfl, HMXm.out.below hbw⟩)
          refine AllQ.step ?_ ?_
          · intro fa vals w1 hf hbw hn
            refine ⟨(fun g b e => by obtain ⟨rfl, rfl⟩ := Prod.mk.inj (Option.some.inj e); exact ⟨by decide, ⟨_, rfl⟩, (hn 2 (by decide))⟩), fun K hK => ?_⟩
            exact opw_move (x := .tmp 3) rfl (hK.out _ _ (qrefl _) ((hf.out 3 (by kernel_rfl)).trans rfl))
          refine AllQ.step ?_ ?_
          · intro fa vals w1 hf hbw hn
            refine ⟨(fun g b e => by obtain ⟨rfl, rfl⟩ := Prod.mk.inj (Option.some.inj e); exact ⟨by decide, ⟨_, rfl⟩, (hn 2 (by decide))⟩), fun K hK => ?_⟩
            exact st_only (X := []) (m := xm) (id := id) rfl (by simp) (by rw [(hf.at_ 3 57 (by decide) rfl)]; exact (hn 3 (by decide))) (by rw [(hf.at_ 4 58 (by decide) rfl)]; exact (hn 4 (by decide))) HSXm.out.1.dlen (fun v w' hb hd => hK.out v w' hb hd)
          refine AllQ.step ?_ ?_
          · intro fa vals w1 hf hbw hn
            refine ⟨(fun g b e => by obtain ⟨rfl, rfl⟩ := Prod.mk.inj (Option.some.inj e); exact ⟨by decide, ⟨_, rfl⟩, (hn 2 (by decide))⟩), fun K hK => ?_⟩
            exact opw_loadM (x := .tmp 11) (B := k8) rfl ((hf.out 11 (by kernel_rfl)).trans rfl) (HBX8.out.below hbw) (hK.out _ _ (qrefl _) ⟨_, _, _, _, rfl, HM8.out.below hbw⟩)
          refine AllQ.step ?_ ?_
          · intro fa vals w1 hf hbw hn
            refine ⟨(fun g b e => by obtain ⟨rfl, rfl⟩ := Prod.mk.inj (Option.some.inj e); exact ⟨by decide, ⟨_, rfl⟩, (hn 2 (by decide))⟩), fun K hK => ?_⟩
            exact st_same (m := onlyM xm id) (n := onlyM xm id) rfl (by rw [(hf.at_ 5 59 (by decide) rfl)]; exact (hn 5 (by decide))) (by rw [(hf.at_ 6 60 (by decide) rfl)]; exact (hn 6 (by decide))) (onlyM_sm HSXm.out id) (fun w' hb => hK.out _ w' hb (by rw [sameM_iff.2 rfl]; rfl))
          refine AllQ.step ?_ ?_
          · intro fa vals w1 hf hbw hn
            refine ⟨(fun g b e => by obtain ⟨rfl, rfl⟩ := Prod.mk.inj (Option.some.inj e); exact ⟨by decide, ⟨_, rfl⟩, (hn 2 (by decide))⟩), fun K hK => ?_⟩
            exact opw_not rfl ((hf.at_ 7 61 (by decide) rfl).trans (hn 7 (by decide))) (hK.out _ _ (qrefl _) rfl)
          exact trivial
        · intro vals w9 hbw hr
          have e2 : vals 2 = .bool false := hr 2 (by decide)
          have e8 : vals 8 = .bool false := hr 8 (by decide)
          refine wpList_frame (h := by simp only [fullR, dstR, List.getElem?_toArray, List.getElem?_cons_succ, List.getElem?_cons_zero, Option.bind_some, Act.put, List.setIfInBounds_toArray, List.set_cons_zero, List.set_cons_succ, e2, e8]; rfl) ?_
          clear hr e2 e8 HBX8 HM8
          generalize vals 0 = u90
          generalize vals 1 = u91
          generalize vals 3 = u93
          generalize vals 4 = u94
          generalize vals 5 = u95
          generalize vals 6 = u96
          generalize vals 7 = u97
          have HBb9 := Lib.hid (HBb8.out.below hbw)
          have HBl9 := Lib.hid (HBl8.out.below hbw)
          have HBr9 := Lib.hid (HBr8.out.below hbw)
          have HW9 := Lib.hid (HW8.out.trans (hbw.mono HW8.out.size))
          have HBXm := Lib.hid (HBXm.out.below hbw)
          have HMXm := Lib.hid (HMXm.out.below hbw)
          clear HBb8 HBl8 HBr8 HW8
          clear hbw
          simp only [List.drop_succ_cons, List.drop_zero]
          go_wp2
          refine NoPanic.normal ?_
          have yl0 := (HBl9.out).cell (i := 0) (v := .string l.label) rfl
          have yl1 := (HBl9.out).cell (i := 1) (v := .slice aul l.uses.length cul) rfl
          have yl2 := (HBl9.out).cell (i := 2) (v := .slice adl l.decls.length cdl) rfl
          have yll := (HBl9.out).lt
          go_wp2
          clear yl0 yl1 yl2 yll
          skip
          go_loopw [67] (fun iv wr => ∃ i : Nat, i ≤ l.uses.length ∧ iv = .int .i64 i ∧ Hid (Below w9.heap.size w9 wr)) (fun iv _ => l.uses.length - (intOf iv).toNat)
          case atStart => exact ⟨0, Nat.zero_le _, rfl, qrefl _⟩
          case round =>
            obtain ⟨i, hil, rfl, HBW⟩ := hrel
            have HWr := Lib.hid (HW9.out.trans (HBW.out.mono HW9.out.size))
            have HBlr := Lib.hid (HBl9.out.below HBW.out)
            have HBrr := Lib.hid (HBr9.out.below HBW.out)
            have HBXr := Lib.hid (HBXm.out.below HBW.out)
            have HUl := Lib.hid (reads_strs.1 (HMl.out.uses.below HWr.out)).1
            have HUr := Lib.hid (reads_strs.1 (HMr.out.uses.below HWr.out)).1
            have HUm := Lib.hid (reads_strs.1 (HMXm.out.uses.below HBW.out)).1
            by_cases hi : i < l.uses.length
            · have hd : decide ((i : Int) < (l.uses.length : Int)) = true := decide_eq_true (by omega)
              have hir : (i : Int) < (l.uses.length : Int) := by omega
              obtain ⟨s, hs⟩ : ∃ s, l.uses[i]? = some s := ⟨_, List.getElem?_eq_getElem hi⟩
              obtain ⟨sb, so, hse, hsb, hsc⟩ := strs_at HUl.out hs
              have hsm := List.mem_of_getElem? hs
              have HIN : Hid (memS s r.uses = true → memS s xm.uses = true) := fun h => by rw [HUS.out]; exact uses_in hsm (memS_iff.1 h)
              have HH1 := Lib.hid (rHas_any _ s r.uses wr HUr.out (by have := HRL.out; omega))
              have HH2 := Lib.hid (rHas_any _ s xm.uses wr HUm.out (by have := HXL.out; omega))
              clear hs hsm HUl HUr HUm
              have y0 := (HBrr.out).cell (i := 0) (v := .string r.label) rfl
              have y1 := (HBrr.out).cell (i := 1) (v := .slice aur r.uses.length cur) rfl
              have y2 := (HBrr.out).cell (i := 2) (v := .slice adr r.decls.length cdr) rfl
              have yl := (HBrr.out).lt
              have z0 := (HBXr.out).cell (i := 0) (v := .string xm.label) rfl
              have z1 := (HBXr.out).cell (i := 1) (v := .slice aum xm.uses.length cum) rfl
              have z2 := (HBXr.out).cell (i := 2) (v := .slice adm xm.decls.length cdm) rfl
              have zl := (HBXr.out).lt
              obtain ⟨c, hc⟩ : ∃ c, memS s r.uses = c := ⟨_, rfl⟩
              rw [hc] at HH1 HIN
              clear hc
              cases hse
              cases c with
              | false =>
                go_wp2_with (fail)
                refine HH1.out.mono ?_
                rintro e wq ⟨rfl, hwq⟩
                subst wq
                have hbd := HLL.out
                go_wp2
                go_roundw
                case rel => exact ⟨i + 1, by omega, by go_num, HBW⟩
                case measure => simp [intOf]; omega
              | true =>
                rw [HIN.out rfl] at HH2
                go_wp2_with (fail)
                refine HH1.out.mono ?_
                rintro e wq ⟨rfl, hwq⟩
                subst wq
                go_wp2_with (fail)
                refine HH2.out.mono ?_
                rintro e wq ⟨rfl, hwq⟩
                subst wq
                have hbd := HLL.out
                go_wp2
                go_roundw
                case rel => exact ⟨i + 1, by omega, by go_num, HBW⟩
                case measure => simp [intOf]; omega
            · have hd : decide ((i : Int) < (l.uses.length : Int)) = false := decide_eq_false (by omega)
              have HWL := HBW
              have z0 := (HBXr.out).cell (i := 0) (v := .string xm.label) rfl
              have z1 := (HBXr.out).cell (i := 1) (v := .slice aum xm.uses.length cum) rfl
              have z2 := (HBXr.out).cell (i := 2) (v := .slice adm xm.decls.length cdm) rfl
              have zl := (HBXr.out).lt
              clear HUl HUr HUm HBW hil
              generalize wr = wo at *
              go_wp2
              clear z0 z1 z2 zl HWr HBlr HBrr HBXr hd hi
              go_loopw [86] (fun iv wr => ∃ i : Nat, i ≤ xm.uses.length ∧ iv = .int .i64 i ∧ Hid (Below w9.heap.size w9 wr)) (fun iv _ => xm.uses.length - (intOf iv).toNat)
              case atStart => exact ⟨0, Nat.zero_le _, rfl, HWL⟩
              case round =>
                obtain ⟨i, hil, rfl, HBW⟩ := hrel
                have HWr := Lib.hid (HW9.out.trans (HBW.out.mono HW9.out.size))
                have HBlr := Lib.hid (HBl9.out.below HBW.out)
                have HBrr := Lib.hid (HBr9.out.below HBW.out)
                have HBXr := Lib.hid (HBXm.out.below HBW.out)
                have HUl := Lib.hid (reads_strs.1 (HMl.out.uses.below HWr.out)).1
                have HUr := Lib.hid (reads_strs.1 (HMr.out.uses.below HWr.out)).1
                have HUm := Lib.hid (reads_strs.1 (HMXm.out.uses.below HBW.out)).1
                by_cases hi : i < xm.uses.length
                · have hd : decide ((i : Int) < (xm.uses.length : Int)) = true := decide_eq_true (by omega)
                  have hir : (i : Int) < (xm.uses.length : Int) := by omega
                  obtain ⟨s, hs⟩ : ∃ s, xm.uses[i]? = some s := ⟨_, List.getElem?_eq_getElem hi⟩
                  obtain ⟨sb, so, hse, hsb, hsc⟩ := strs_at HUm.out hs
                  have hsm := List.mem_of_getElem? hs
                  have HIN : Hid (memS s l.uses = false → memS s r.uses = true) := fun h => uses_from (by rw [← HUS.out]; exact hsm) h
                  have HH1 := Lib.hid (rHas_any _ s l.uses wr HUl.out (by have := HLL.out; omega))
                  have HH2 := Lib.hid (rHas_any _ s r.uses wr HUr.out (by have := HRL.out; omega))
                  clear hs hsm HUl HUr HUm
                  have y0 := (HBlr.out).cell (i := 0) (v := .string l.label) rfl
                  have y1 := (HBlr.out).cell (i := 1) (v := .slice aul l.uses.length cul) rfl
                  have y2 := (HBlr.out).cell (i := 2) (v := .slice adl l.decls.length cdl) rfl
                  have yl := (HBlr.out).lt
                  have z0 := (HBrr.out).cell (i := 0) (v := .string r.label) rfl
                  have z1 := (HBrr.out).cell (i := 1) (v := .slice aur r.uses.length cur) rfl
                  have z2 := (HBrr.out).cell (i := 2) (v := .slice adr r.decls.length cdr) rfl
                  have zl := (HBrr.out).lt
                  obtain ⟨c, hc⟩ : ∃ c, memS s l.uses = c := ⟨_, rfl⟩
                  rw [hc] at HH1 HIN
                  clear hc
                  cases hse
                  cases c with
                  | true =>
                    go_wp2_with (fail)
                    refine HH1.out.mono ?_
                    rintro e wq ⟨rfl, hwq⟩
                    subst wq
                    have hbd := HXL.out
                    go_wp2
                    go_roundw
                    case rel => exact ⟨i + 1, by omega, by go_num, HBW⟩
                    case measure => simp [intOf]; omega
                  | false =>
                    rw [HIN.out rfl] at HH2
                    go_wp2_with (fail)
                    refine HH1.out.mono ?_
                    rintro e wq ⟨rfl, hwq⟩
                    subst wq
                    go_wp2_with (fail)
                    refine HH2.out.mono ?_
                    rintro e wq ⟨rfl, hwq⟩
                    subst wq
                    have hbd := HXL.out
                    go_wp2
                    go_roundw
                    case rel => exact ⟨i + 1, by omega, by go_num, HBW⟩
                    case measure => simp [intOf]; omega
                · have hd : decide ((i : Int) < (xm.uses.length : Int)) = false := decide_eq_false (by omega)
                  clear HWL
                  go_wp2_with (fail)
                  refine (HAW.out _).mono ?_
                  rintro e wz ⟨rfl, hbz⟩
                  go_wp2
                  go_ret
                  exact ⟨rfl, HWr.out.trans (hbz.mono HWr.out.size)⟩
    · have hz : (qm != 0) = true := by simp [h0]
      have hxo : noMod = xm := by rw [← HXm.out]; unfold mergeM; rw [if_neg (by rw [HQm.out]; exact h0)]
      subst hxo
      have z0 := (HBXm.out).cell (i := 0) (v := .string noMod.label) rfl
      have z1 := (HBXm.out).cell (i := 1) (v := .slice aum noMod.uses.length cum) rfl
      have z2 := (HBXm.out).cell (i := 2) (v := .slice adm noMod.decls.length cdm) rfl
      have zl := (HBXm.out).lt
      have HS9 := Lib.hid (r24Same_any noMod noMod aum adm none none cum cdm 0 0 w3 HMXm.out (noMod_in _ _) (fun d hd => by simp [noMod] at hd) (by simp [noMod]) (by simp [noMod]))
      unfold modV at HS9
      rw [sameM_iff.2 rfl] at HS9
      go_wp2_with (fail)
      refine HS9.out.mono ?_
      rintro e w4 ⟨rfl, hbs⟩
      have HW4 := Lib.hid (HW3.out.trans (hbs.mono HW3.out.size))
      go_wp2_with (fail)
      refine (HAW.out _).mono ?_
      rintro e wz ⟨rfl, hbz⟩
      go_wp2
      go_ret
      exact ⟨rfl, HW4.out.trans (hbz.mono HW4.out.size)⟩
end Go.Proofs.YtlgnedahnaojlaaGreatDoor

