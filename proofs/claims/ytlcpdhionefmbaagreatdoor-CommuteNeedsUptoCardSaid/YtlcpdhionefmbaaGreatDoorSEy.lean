/- The chapter's example holds. -/
import Derived.Test.YtlcpdhionefmbaaGreatDoorSEx
namespace Go.Proofs.YtlcpdhionefmbaaGreatDoor
open Go.RowKit Go.Shelf
attribute [local go_sem] Oper.semAt_some

theorem own_many (w : World) (B : Nat) (hB : B ≤ w.heap.size) (t : TypeId) (xs : Array Value) (sz n : Nat) (h : xs.size = n * sz) (hn : n ≤ 1000000) : (w.alloc (.cells xs t)).ownsRow B t sz (.slice (some ⟨w.heap.size, 0, none⟩) n n) n xs.toList :=
  ⟨by rw [Array.length_toList]; exact h, .inr ⟨w.heap.size, n, _, rfl, hB, World.alloc_heap_new _ _, Nat.le_refl _, by unfold maxLen; omega, h, by rw [← h, ← Array.length_toList, List.take_length]⟩⟩
theorem edits_two (W : World) (e f : OEdit) (ao : Option Addr) (co : Nat) (af : Option Addr) (cf : Nat) (bo : Option Addr) (do' : Nat) (bf : Option Addr) (df : Nat) (he : EditIn W e ao co af cf) (hf : EditIn W f bo do' bf df) :
    Reads (W.alloc (.cells #[.int .i64 e.kind, .string e.pack, .string e.text, .slice ao e.old.length co, .slice af e.fresh.length cf, .int .i64 f.kind, .string f.pack, .string f.text, .slice bo f.old.length do', .slice bf f.fresh.length df] 24)) [] (editsT [e, f]) (.slice (some ⟨W.heap.size, 0, none⟩) 2 2) := by
  refine Reads.ofRow (l := [e, f]) (owns_row (own_many W W.heap.size (Nat.le_refl _) 24 _ 5 2 rfl (by omega))) (fun _ b _ => by simp) ?_
  have h1 := he.below (qalloc W (.cells #[.int .i64 e.kind, .string e.pack, .string e.text, .slice ao e.old.length co, .slice af e.fresh.length cf, .int .i64 f.kind, .string f.pack, .string f.text, .slice bo f.old.length do', .slice bf f.fresh.length df] 24))
  have h2 := hf.below (qalloc W (.cells #[.int .i64 e.kind, .string e.pack, .string e.text, .slice ao e.old.length co, .slice af e.fresh.length cf, .int .i64 f.kind, .string f.pack, .string f.text, .slice bo f.old.length do', .slice bf f.fresh.length df] 24))
  rw [List.flatMap_cons, List.flatMap_cons, List.flatMap_nil, List.append_nil]
  exact ReadsL.cons (Reads.leaf' _ _ _) (ReadsL.cons (Reads.leaf' _ _ _) (ReadsL.cons (Reads.leaf' _ _ _) (ReadsL.cons h1.old (ReadsL.cons h1.fresh (ReadsL.cons (Reads.leaf' _ _ _) (ReadsL.cons (Reads.leaf' _ _ _) (ReadsL.cons (Reads.leaf' _ _ _) (ReadsL.cons h2.old (ReadsL.cons h2.fresh (ReadsL.nil _ _))))))))))
theorem ints_zero (W : World) : IntsR (W.alloc (.cells #[.int .i64 0] 3)) (.slice (some ⟨W.heap.size, 0, none⟩) 1 1) [0] := owns_row (own_one W W.heap.size (Nat.le_refl _) (.int .i64 0) 3)
set_option maxRecDepth 100000 in
set_option maxHeartbeats 8000000 in
theorem awake35_any (w : World) : Calls Tryz.prog 7 #[] w fun r w' => r = .returned (.bool true) ∧ Below w.heap.size w w' := by
  go_enter Tryz.func7, Tryz.ntmps7
  go_wp2_with (fail)
  refine (awakeName_any fName _).mono ?_
  rintro r w1 ⟨fa, rfl, hr1, hb1⟩
  have HB1 := Lib.hid hb1
  have HR1 := Lib.hid hr1
  clear hb1 hr1
  go_wp2_with (fail)
  refine (awakeName_any gName _).mono ?_
  rintro r w2 ⟨ga, rfl, hr2, hb2⟩
  have HB2 := Lib.hid (qtrans HB1.out hb2)
  have HIA : Hid (EditIn w2 aE fa 1 ga 1) := ⟨HR1.out.below hb2, hr2, Nat.le_refl _, by decide, Nat.le_refl _, by decide⟩
  clear hr2 hb2 HR1 HB1
  go_upto_region 4 with (fail)
  have hq := qalloc w2 (.cells #[.int .i64 7, .string ⟨#[97]⟩, .string ⟨#[]⟩, .slice fa 1 1, .slice ga 1 1] 24)
  have HB3 := Lib.hid (qtrans HB2.out hq)
  have HIA3 := Lib.hid (HIA.out.below hq)
  have HA3 := Lib.hid (CBox.new w2 24 #[.int .i64 7, .string ⟨#[97]⟩, .string ⟨#[]⟩, .slice fa 1 1, .slice ga 1 1])
  clear hq HIA HB2
  generalize w2.alloc (.cells #[.int .i64 7, .string ⟨#[97]⟩, .string ⟨#[]⟩, .slice fa 1 1, .slice ga 1 1] 24) = w3 at *
  generalize w2.heap.size = A at *
  go_wp2_with (fail)
  refine (awakeBody_any 1 _).mono ?_
  rintro r w4 ⟨ba, rfl, hr4, hb4⟩
  have HB4 := Lib.hid hb4
  have HR4 := Lib.hid hr4
  clear hb4 hr4
  go_wp2_with (fail)
  refine (awakeBody_any 2 _).mono ?_
  rintro r w5 ⟨da, rfl, hr5, hb5⟩
  have HB35 := Lib.hid (qtrans HB4.out hb5)
  have HIB : Hid (EditIn w5 bE ba 1 da 1) := ⟨HR4.out.below hb5, hr5, Nat.le_refl _, by decide, Nat.le_refl _, by decide⟩
  have HIA5 := Lib.hid (HIA3.out.below HB35.out)
  have HA5 := Lib.hid (HA3.out.below HB35.out)
  have HB5 := Lib.hid (qtrans HB3.out HB35.out)
  clear hr5 hb5 HR4 HB4 HB35 HIA3 HA3 HB3
  go_upto_region 5 with (fail)
  have hq := qalloc w5 (.cells #[.int .i64 8, .string ⟨#[97]⟩, .string ⟨#[]⟩, .slice ba 1 1, .slice da 1 1] 24)
  have HB6 := Lib.hid (qtrans HB5.out hq)
  have HIA6 := Lib.hid (HIA5.out.below hq)
  have HIB6 := Lib.hid (HIB.out.below hq)
  have HA6 := Lib.hid (HA5.out.below hq)
  have HBB6 := Lib.hid (CBox.new w5 24 #[.int .i64 8, .string ⟨#[97]⟩, .string ⟨#[]⟩, .slice ba 1 1, .slice da 1 1])
  clear hq HIA5 HIB HA5 HB5
  generalize w5.alloc (.cells #[.int .i64 8, .string ⟨#[97]⟩, .string ⟨#[]⟩, .slice ba 1 1, .slice da 1 1] 24) = w6 at *
  generalize w5.heap.size = B at *
  go_upto_region 6 with (fail)
  have hd : DeclIn (w6.alloc (.cells #[.string fName] 9)) letD (some ⟨w6.heap.size, 0, none⟩) 1 none 0 := ⟨strs_text w6 fName, nilRow_subs _, Nat.le_refl _, by decide, Nat.le_refl _, Nat.zero_le _⟩
  have hdr := reads_declOne hd
  rw [World.size_alloc] at hdr
  have hq1 := qtrans (qalloc w6 (.cells #[.string fName] 9)) (qalloc _ (.cells #[.int .i64 3, .int .i64 1, .bool false, .slice (some ⟨w6.heap.size, 0, none⟩) 1 1, .bool false, .int .i64 11, .string ⟨#[]⟩, .string ⟨#[]⟩, .int .i64 0, .int .i64 0, .slice none 0 0] 50))
  have HIC0 : Hid (EditIn ((w6.alloc (.cells #[.string fName] 9)).alloc (.cells #[.int .i64 3, .int .i64 1, .bool false, .slice (some ⟨w6.heap.size, 0, none⟩) 1 1, .bool false, .int .i64 11, .string ⟨#[]⟩, .string ⟨#[]⟩, .int .i64 0, .int .i64 0, .slice none 0 0] 50)) cE none 0 (some ⟨w6.heap.size + 1, 0, none⟩) 1) := ⟨nilRow_decls _, hdr, Nat.le_refl _, Nat.zero_le _, Nat.le_refl _, by decide⟩
  have hsz : ((w6.alloc (.cells #[.string fName] 9)).alloc (.cells #[.int .i64 3, .int .i64 1, .bool false, .slice (some ⟨w6.heap.size, 0, none⟩) 1 1, .bool false, .int .i64 11, .string ⟨#[]⟩, .string ⟨#[]⟩, .int .i64 0, .int .i64 0, .slice none 0 0] 50)).heap.size = w6.heap.size + 1 + 1 := by simp only [World.size_alloc]
  have HQ1 := Lib.hid hq1
  clear hd hdr hq1
  unfold fName at HIC0 HQ1 hsz
  generalize ((w6.alloc (.cells #[.string ⟨#[102]⟩] 9)).alloc (.cells #[.int .i64 3, .int .i64 1, .bool false, .slice (some ⟨w6.heap.size, 0, none⟩) 1 1, .bool false, .int .i64 11, .string ⟨#[]⟩, .string ⟨#[]⟩, .int .i64 0, .int .i64 0, .slice none 0 0] 50)) = v6 at *
  generalize w6.heap.size + 1 + 1 = C at *
  generalize hcr : some (⟨w6.heap.size + 1, 0, none⟩ : Addr) = ca at *
  clear hcr
  have hq := qalloc v6 (.cells #[.int .i64 5, .string ⟨#[97]⟩, .string ⟨#[]⟩, .slice none 0 0, .slice ca 1 1] 24)
  have HQ2 := Lib.hid (qtrans HQ1.out hq)
  have HIC := Lib.hid (HIC0.out.below hq)
  have HC7 := Lib.hid (CBox.new v6 24 #[.int .i64 5, .string ⟨#[97]⟩, .string ⟨#[]⟩, .slice none 0 0, .slice ca 1 1])
  rw [hsz] at HC7
  clear hsz hq HIC0 HQ1
  generalize v6.alloc (.cells #[.int .i64 5, .string ⟨#[97]⟩, .string ⟨#[]⟩, .slice none 0 0, .slice ca 1 1] 24) = w7 at *
  have HB7 := Lib.hid (qtrans HB6.out HQ2.out)
  have HIA7 := Lib.hid (HIA6.out.below HQ2.out)
  have HIB7 := Lib.hid (HIB6.out.below HQ2.out)
  have HA7 := Lib.hid (HA6.out.below HQ2.out)
  have HBB7 := Lib.hid (HBB6.out.below HQ2.out)
  clear HQ2 HIA6 HIB6 HA6 HBB6 HB6
  have a0 := HA7.out.cell (i := 0) (v := .int .i64 7) rfl
  have b0 := HBB7.out.cell (i := 0) (v := .int .i64 8) rfl
  have a1 := HA7.out.cell (i := 1) (v := .string ⟨#[97]⟩) rfl
  have b1 := HBB7.out.cell (i := 1) (v := .string ⟨#[97]⟩) rfl
  have a2 := HA7.out.cell (i := 2) (v := .string ⟨#[]⟩) rfl
  have b2 := HBB7.out.cell (i := 2) (v := .string ⟨#[]⟩) rfl
  have a3 := HA7.out.cell (i := 3) (v := .slice fa 1 1) rfl
  have b3 := HBB7.out.cell (i := 3) (v := .slice ba 1 1) rfl
  have a4 := HA7.out.cell (i := 4) (v := .slice ga 1 1) rfl
  have b4 := HBB7.out.cell (i := 4) (v := .slice da 1 1) rfl
  have al := HA7.out.lt
  have bl := HBB7.out.lt
  have hs1 : swapV aE bE fa 1 ga 1 ba 1 da 1 = .tuple #[.agg #[.int .i64 8, .string ⟨#[97]⟩, .string ⟨#[]⟩, .slice ba 1 1, .slice da 1 1], .agg #[.int .i64 7, .string ⟨#[97]⟩, .string ⟨#[]⟩, .slice fa 1 1, .slice ga 1 1], .bool true] := by unfold swapV; rw [ab_swap]; rfl
  have hs2 : swapV cE aE none 0 ca 1 fa 1 ga 1 = .tuple #[.agg #[.int .i64 0, .string ⟨#[]⟩, .string ⟨#[]⟩, .slice none 0 0, .slice none 0 0], .agg #[.int .i64 0, .string ⟨#[]⟩, .string ⟨#[]⟩, .slice none 0 0, .slice none 0 0], .bool false] := by unfold swapV; rw [ca_swap]; rfl
  have HS1 := Lib.hid (cSwap_any aE bE fa 1 ga 1 ba 1 da 1 w7 HIA7.out HIB7.out aE_sm bE_sm)
  have HS2 := Lib.hid (fun W (h : Below w7.heap.size w7 W) => cSwap_any cE aE none 0 ca 1 fa 1 ga 1 W (HIC.out.below h) (HIA7.out.below h) cE_sm aE_sm)
  rw [hs1] at HS1
  rw [hs2] at HS2
  clear hs1 hs2
  go_wp2_with (fail)
  refine HS1.out.mono ?_
  rintro r w8 ⟨rfl, hb8⟩
  have HB78 := Lib.hid hb8
  clear a0 a1 a2 a3 a4 b0 b1 b2 b3 b4 al bl hb8 HS1
  go_upto_region 7 with (fail)
  obtain ⟨x1, x2, x3⟩ := two_boxes w8 24 #[.int .i64 8, .string ⟨#[97]⟩, .string ⟨#[]⟩, .slice ba 1 1, .slice da 1 1] #[.int .i64 7, .string ⟨#[97]⟩, .string ⟨#[]⟩, .slice fa 1 1, .slice ga 1 1]
  have HB79 := Lib.hid (qtrans HB78.out x3)
  have HX := Lib.hid x1
  have HY := Lib.hid x2
  clear x1 x2 x3 HB78
  generalize (w8.alloc (.cells #[.int .i64 8, .string ⟨#[97]⟩, .string ⟨#[]⟩, .slice ba 1 1, .slice da 1 1] 24)).alloc (.cells #[.int .i64 7, .string ⟨#[97]⟩, .string ⟨#[]⟩, .slice fa 1 1, .slice ga 1 1] 24) = w9 at *
  generalize w8.heap.size + 1 = Y at *
  generalize w8.heap.size = X at *
  have a0 := (HA7.out.below HB79.out).cell (i := 0) (v := .int .i64 7) rfl
  have c0 := (HC7.out.below HB79.out).cell (i := 0) (v := .int .i64 5) rfl
  have a1 := (HA7.out.below HB79.out).cell (i := 1) (v := .string ⟨#[97]⟩) rfl
  have c1 := (HC7.out.below HB79.out).cell (i := 1) (v := .string ⟨#[97]⟩) rfl
  have a2 := (HA7.out.below HB79.out).cell (i := 2) (v := .string ⟨#[]⟩) rfl
  have c2 := (HC7.out.below HB79.out).cell (i := 2) (v := .string ⟨#[]⟩) rfl
  have a3 := (HA7.out.below HB79.out).cell (i := 3) (v := .slice fa 1 1) rfl
  have c3 := (HC7.out.below HB79.out).cell (i := 3) (v := .slice none 0 0) rfl
  have a4 := (HA7.out.below HB79.out).cell (i := 4) (v := .slice ga 1 1) rfl
  have c4 := (HC7.out.below HB79.out).cell (i := 4) (v := .slice ca 1 1) rfl
  have al := (HA7.out.below HB79.out).lt
  have cl := (HC7.out.below HB79.out).lt
  go_wp2_with (fail)
  refine (HS2.out _ HB79.out).mono ?_
  rintro r w10 ⟨rfl, hb10⟩
  have HB910 := Lib.hid hb10
  clear a0 a1 a2 a3 a4 c0 c1 c2 c3 c4 al cl hb10 HS2
  go_upto_region 8 with (fail)
  obtain ⟨-, -, x3⟩ := two_boxes w10 24 #[.int .i64 0, .string ⟨#[]⟩, .string ⟨#[]⟩, .slice none 0 0, .slice none 0 0] #[.int .i64 0, .string ⟨#[]⟩, .string ⟨#[]⟩, .slice none 0 0, .slice none 0 0]
  have HB911 := Lib.hid (qtrans HB910.out x3)
  have HB711 := Lib.hid (qtrans HB79.out HB911.out)
  clear x3 HB910
  generalize (w10.alloc (.cells #[.int .i64 0, .string ⟨#[]⟩, .string ⟨#[]⟩, .slice none 0 0, .slice none 0 0] 24)).alloc (.cells #[.int .i64 0, .string ⟨#[]⟩, .string ⟨#[]⟩, .slice none 0 0, .slice none 0 0] 24) = w11 at *
  generalize w10.heap.size + 1 = U at *
  generalize w10.heap.size = V at *
  have a0 := (HA7.out.below HB711.out).cell (i := 0) (v := .int .i64 7) rfl
  have c0 := (HC7.out.below HB711.out).cell (i := 0) (v := .int .i64 5) rfl
  have a1 := (HA7.out.below HB711.out).cell (i := 1) (v := .string ⟨#[97]⟩) rfl
  have c1 := (HC7.out.below HB711.out).cell (i := 1) (v := .string ⟨#[97]⟩) rfl
  have a2 := (HA7.out.below HB711.out).cell (i := 2) (v := .string ⟨#[]⟩) rfl
  have c2 := (HC7.out.below HB711.out).cell (i := 2) (v := .string ⟨#[]⟩) rfl
  have a3 := (HA7.out.below HB711.out).cell (i := 3) (v := .slice fa 1 1) rfl
  have c3 := (HC7.out.below HB711.out).cell (i := 3) (v := .slice none 0 0) rfl
  have a4 := (HA7.out.below HB711.out).cell (i := 4) (v := .slice ga 1 1) rfl
  have c4 := (HC7.out.below HB711.out).cell (i := 4) (v := .slice ca 1 1) rfl
  have al := (HA7.out.below HB711.out).lt
  have cl := (HC7.out.below HB711.out).lt
  have hrd := edits_two w11 cE aE none 0 ca 1 fa 1 ga 1 (HIC.out.below HB711.out) (HIA7.out.below HB711.out)
  have HN := Lib.hid (cNeeds_any [cE, aE] 1 _ 2 _ hrd (fun e he => by simp only [List.mem_cons, List.not_mem_nil, or_false] at he; rcases he with rfl | rfl; exact cE_sm; exact aE_sm) (by decide))
  rw [ca_check, ca_needs] at HN
  clear hrd
  go_wp2_with (fail)
  refine HN.out.mono ?_
  rintro r w12 ⟨lv, rfl, hi12, hb12⟩
  have HI12 := Lib.hid hi12
  have HB12 := Lib.hid (qtrans HB711.out (qtrans (qalloc _ _) hb12))
  have HB9b := Lib.hid (qtrans HB911.out (qtrans (qalloc _ _) hb12))
  clear a0 a1 a2 a3 a4 c0 c1 c2 c3 c4 al cl hi12 hb12 HN HB711 HB911
  have a0 := (HX.out.below HB9b.out).cell (i := 0) (v := .int .i64 8) rfl
  have b0 := (HBB7.out.below HB12.out).cell (i := 0) (v := .int .i64 8) rfl
  have a1 := (HX.out.below HB9b.out).cell (i := 1) (v := .string ⟨#[97]⟩) rfl
  have b1 := (HBB7.out.below HB12.out).cell (i := 1) (v := .string ⟨#[97]⟩) rfl
  have a2 := (HX.out.below HB9b.out).cell (i := 2) (v := .string ⟨#[]⟩) rfl
  have b2 := (HBB7.out.below HB12.out).cell (i := 2) (v := .string ⟨#[]⟩) rfl
  have a3 := (HX.out.below HB9b.out).cell (i := 3) (v := .slice ba 1 1) rfl
  have b3 := (HBB7.out.below HB12.out).cell (i := 3) (v := .slice ba 1 1) rfl
  have a4 := (HX.out.below HB9b.out).cell (i := 4) (v := .slice da 1 1) rfl
  have b4 := (HBB7.out.below HB12.out).cell (i := 4) (v := .slice da 1 1) rfl
  have al := (HX.out.below HB9b.out).lt
  have bl := (HBB7.out.below HB12.out).lt
  have HE1 := Lib.hid (r34Same_any bE bE ba 1 da 1 ba 1 da 1 w12 (HIB7.out.below HB12.out) (HIB7.out.below HB12.out) bE_sm)
  rw [sameE_iff.2 (rfl : bE = bE)] at HE1
  go_wp2_with (fail)
  refine HE1.out.mono ?_
  rintro r w13 ⟨rfl, hb13⟩
  have HB13 := Lib.hid (qtrans HB12.out hb13)
  have HB9c := Lib.hid (qtrans HB9b.out hb13)
  have HI13 := Lib.hid (HI12.out.below hb13)
  clear a0 a1 a2 a3 a4 b0 b1 b2 b3 b4 al bl hb13 HE1 HI12
  have a0 := (HA7.out.below HB13.out).cell (i := 0) (v := .int .i64 7) rfl
  have b0 := (HY.out.below HB9c.out).cell (i := 0) (v := .int .i64 7) rfl
  have a1 := (HA7.out.below HB13.out).cell (i := 1) (v := .string ⟨#[97]⟩) rfl
  have b1 := (HY.out.below HB9c.out).cell (i := 1) (v := .string ⟨#[97]⟩) rfl
  have a2 := (HA7.out.below HB13.out).cell (i := 2) (v := .string ⟨#[]⟩) rfl
  have b2 := (HY.out.below HB9c.out).cell (i := 2) (v := .string ⟨#[]⟩) rfl
  have a3 := (HA7.out.below HB13.out).cell (i := 3) (v := .slice fa 1 1) rfl
  have b3 := (HY.out.below HB9c.out).cell (i := 3) (v := .slice fa 1 1) rfl
  have a4 := (HA7.out.below HB13.out).cell (i := 4) (v := .slice ga 1 1) rfl
  have b4 := (HY.out.below HB9c.out).cell (i := 4) (v := .slice ga 1 1) rfl
  have al := (HA7.out.below HB13.out).lt
  have bl := (HY.out.below HB9c.out).lt
  have HE2 := Lib.hid (r34Same_any aE aE fa 1 ga 1 fa 1 ga 1 w13 (HIA7.out.below HB13.out) (HIA7.out.below HB13.out) aE_sm)
  rw [sameE_iff.2 (rfl : aE = aE)] at HE2
  go_wp2_with (fail)
  refine HE2.out.mono ?_
  rintro r w14 ⟨rfl, hb14⟩
  have HB14 := Lib.hid (qtrans HB13.out hb14)
  have hq := qalloc w14 (.cells #[.int .i64 0] 3)
  have HSI := Lib.hid (rSameInts_any [0] [0] lv _ _ ((HI13.out.below hb14).below hq) (ints_zero w14) (by decide) (by decide))
  rw [sameIs_iff.2 (rfl : ([0] : List Int) = [0])] at HSI
  clear a0 a1 a2 a3 a4 b0 b1 b2 b3 b4 al bl hb14 HE2
  go_wp2_with (fail)
  refine HSI.out.mono ?_
  rintro r w15 ⟨rfl, hb15⟩
  have HF := Lib.hid (qtrans HB7.out (qtrans HB14.out (qtrans hq hb15)))
  clear hq hb15
  go_wp2
  go_ret
  exact ⟨rfl, HF.out⟩
end Go.Proofs.YtlcpdhionefmbaaGreatDoor
