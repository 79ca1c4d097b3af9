/- OwnersNearest: the walk. -/
import Derived.Test.YtidkpnabdfiilaaGreatDoorNrD
import Derived.Test.YtidkpnabdfiilaaGreatDoorNrP
import Derived.Test.YtidkpnabdfiilaaGreatDoorQ16
import Derived.Deep.CutBlock
import Derived.Deep.DeepCutAuto
namespace Go.Proofs.YtidkpnabdfiilaaGreatDoor
open Go.RowKit
attribute [local go_sem] Oper.semAt_some

theorem LastIndexByte_long (s : ByteArray) (w : World) (hs : s.size ≤ 200000000000000) :
    Calls Tryz.prog 43 #[.string s, .int .u8 47] w fun e w' => e = .returned (.int .i64 (lastSlS s)) ∧ w = w' := by
  go_enter Tryz.func43, Tryz.ntmps43
  go_wp2
  go_loop [5] (fun i => ∃ k : Nat, k ≤ s.size ∧ i = .int .i64 ((k : Int) - 1) ∧ Hid (lastSlS s = lastSlFrom s.data.toList k)) (fun i => (intOf i + 1).toNat)
  case atStart => exact ⟨s.size, Nat.le_refl _, rfl, rfl⟩
  case round =>
    obtain ⟨k, hk, rfl, HK⟩ := hrel
    cases k with
    | zero =>
      go_wp2
      go_ret
      exact ⟨ret_int (by rw [HK.out]; rfl), rfl⟩
    | succ k =>
      have hlt : k < s.size := by omega
      have ek : (((k + 1 : Nat) : Int) - 1) = (k : Int) := by omega
      rw [ek]
      clear ek
      have hg := getD_at s k hlt
      by_cases hc : s[k] = 47
      · have hb : ((s[k].toNat : Int) == 47) = true := by rw [byteb]; simp [hc]
        have HF : Hid (lastSlS s = k) := by show _ = _; rw [HK.out, lastSlFrom, if_pos (by rw [hg, hc])]
        clear hg hc
        go_wp2
        go_ret
        exact ⟨ret_int (by rw [HF.out]), rfl⟩
      · have hb : ((s[k].toNat : Int) == 47) = false := by rw [byteb]; simp [hc]
        have HF : Hid (lastSlS s = lastSlFrom s.data.toList k) := by show _ = _; rw [HK.out, lastSlFrom, if_neg (by rw [hg]; exact hc)]
        clear hg hc
        go_wp2
        go_round
        case rel => exact ⟨k, by omega, rfl, HF⟩
        case measure => simp [intOf]
end Go.Proofs.YtidkpnabdfiilaaGreatDoor

namespace Go.Proofs.YtidkpnabdfiilaaGreatDoor
open Go.RowKit Go.Shelf
attribute [local go_sem] Oper.semAt_some
theorem wp_append_row {P : Program} {o : Oper} {a : Act} {w : World} {K : Act → World → Prop} {Q : Exit → Act → World → Prop} (s x : Operand) (t : TypeId)
    (ho : o.op = .call { callee := .builtin .append, args := #[s, x], argTypes := #[t, t] })
    (base : Nat) (e : TypeId) (i : TypeInfo) (z : Value) (size bytes : Nat) (ht : P.underlying t = some (.slice e)) (hi : P.info? e = some i) (hz : i.zero = some z)
    (hsize : i.size = size) (hby : i.bytes = bytes) (hzs : z.cells.size = size) (hsz : 0 < size)
    (v : Value) (n : Nat) (xs : List Value) (hs : a.eval s = v) (hown : w.ownsRow base e size v n xs)
    (sv : Value) (m : Nat) (news : List Value) (hx : a.eval x = sv) (hr : IsRow w size sv m news) (h1 : ∀ u ∈ news, u.oneCell' = true)
    (h63 : n + m ≤ maxLen) (hbytes : (n + m) * bytes ≤ 140737488355328) (hbase : base ≤ w.heap.size)
    (h : ∀ v' w', w'.ownsRow base e size v' (n + m) (xs ++ news) → w.grownBy w' v.ownBlock → K (a.put o.dst v') w') : o.wp P a w K Q := by
  obtain ⟨v', w', hrun, h2, h3, h4⟩ := run_append_row (P := P) base t o.type e i z size bytes ht hi hz hsize hby hzs hsz v n xs hown sv m news hr h1 h63 hbytes hbase
  unfold Oper.wp execOp
  simp only [ho, resolve, invoke, builtin, Sem.run_bind, Sem.run_pure, Result.andThen_ok, List.map_toArray, List.map_cons, List.map_nil, hs, hx, hrun]
  exact h v' w' h2 h3
theorem fileCells_one (fs : List OFile) : ∀ u ∈ fileCells fs, u.oneCell' = true := by
  intro u hu
  obtain ⟨f, _, h⟩ := List.mem_flatMap.1 hu
  simp at h
  rcases h with rfl | rfl <;> rfl
theorem lastSl_low (l : List UInt8) : ∀ n, -1 ≤ lastSlFrom l n
  | 0 => Int.le_refl _
  | n + 1 => by
    rw [lastSlFrom]
    split
    · omega
    · exact lastSl_low l n
theorem out_snoc {m : ByteArray} {fs : List OFile} {k : Nat} {f : OFile} (hf : fs[k]? = some f) : outF m (fs.take (k + 1)) = outF m (fs.take k) ++ (if (f.path.data.toList == m.data.toList) then [] else [f]) := by
  rw [take_at hf, outF, outF, List.filter_append]
  congr 1
  rw [List.filter_cons, List.filter_nil]
  cases (f.path.data.toList == m.data.toList) <;> rfl
theorem out_len (m : ByteArray) (fs : List OFile) : (outF m fs).length ≤ fs.length := List.length_filter_le _ _
theorem isRow_take {w : World} {size n : Nat} {a : Option Addr} {cap : Nat} {xs : List Value} (h : IsRow w size (.slice a n cap) n xs) {k : Nat} (hk : k ≤ n) : IsRow w size (.slice a k cap) k (xs.take (k * size)) := by
  obtain ⟨hl, a', cap', e, h1, h2, h3⟩ := h
  cases e
  refine ⟨?_, a, cap, rfl, by omega, h2, fun h0 => ?_⟩
  · rw [List.length_take, hl]
    have := Nat.mul_le_mul_right size hk
    omega
  · obtain ⟨b, o, e, hb, hc⟩ := h3 (by omega)
    refine ⟨b, o, e, hb, fun j u hj => hc j u ?_⟩
    rw [List.getElem?_take] at hj
    split at hj
    · exact hj
    · cases hj
theorem isRow_drop {w : World} {size n : Nat} {b o : Nat} {cap : Nat} {xs : List Value} (h : IsRow w size (.slice (some ⟨b, o, none⟩) n cap) n xs) {k : Nat} (hk : k ≤ n) : IsRow w size (.slice (some ⟨b, o + k * size, none⟩) (n - k) (cap - k)) (n - k) (xs.drop (k * size)) := by
  obtain ⟨hl, a', cap', e, h1, h2, h3⟩ := h
  cases e
  refine ⟨by rw [List.length_drop, hl, Nat.sub_mul], _, cap - k, rfl, by omega, by omega, fun h0 => ?_⟩
  obtain ⟨b', o', e, hb, hc⟩ := h3 (by omega)
  cases e
  refine ⟨b, _, rfl, hb, fun j u hj => ?_⟩
  rw [List.getElem?_drop] at hj
  have := hc _ u hj
  rwa [← Nat.add_assoc] at this
theorem isRow_none (w : World) {size n cap : Nat} (a : Option Addr) (xs : List Value) (hn : n = 0) (hc : cap ≤ maxLen) (hx : xs = []) : IsRow w size (.slice a n cap) n xs := by
  subst hn hx
  exact ⟨by simp, a, cap, rfl, Nat.zero_le _, hc, fun h => absurd h (Nat.lt_irrefl _)⟩
theorem isRow_grown {w w' : World} {size n cap : Nat} {b o : Nat} {xs : List Value} {row : Option Nat} (h : IsRow w size (.slice (some ⟨b, o, none⟩) n cap) n xs) (g : w.grownBy w' row) (hne : row = some b → False) : IsRow w' size (.slice (some ⟨b, o, none⟩) n cap) n xs := by
  obtain ⟨hl, a', cap', e, h1, h2, h3⟩ := h
  cases e
  refine ⟨hl, _, cap, rfl, h1, h2, fun h0 => ?_⟩
  obtain ⟨b', o', e, hb, hc⟩ := h3 h0
  cases e
  refine ⟨b, o, rfl, Nat.lt_of_lt_of_le hb g.size, fun j u hj => ?_⟩
  rw [World.cell?_of_block (g.block b hb (fun e => hne e.symm))]
  exact hc j u hj
theorem own_with {w : World} {B q : Nat} {v : Value} {outs : List OFile} {m d : ByteArray} (hq : q ≤ outs.length)
    (h : w.ownsRow B 55 2 v (0 + q + 1 + (outs.length - q)) ([] ++ (fileCells outs).take (q * 2) ++ [.string m, .string d] ++ (fileCells outs).drop (q * 2))) : OwnF w B v (outs.take q ++ ⟨m, d⟩ :: outs.drop q) := by
  have hs : fileCells outs = fileCells (outs.take q) ++ fileCells (outs.drop q) := by
    rw [fileCells, fileCells, fileCells, ← List.flatMap_append, List.take_append_drop]
  have hl : (fileCells (outs.take q)).length = q * 2 := by rw [fileCells_len, List.length_take, Nat.min_eq_left hq]
  rw [hs, ← hl, List.take_left, List.drop_left, List.nil_append] at h
  unfold OwnF
  have e1 : (outs.take q ++ (⟨m, d⟩ : OFile) :: outs.drop q).length = 0 + q + 1 + (outs.length - q) := by
    rw [List.length_append, List.length_cons, List.length_take, List.length_drop]; omega
  have e2 : fileCells (outs.take q ++ (⟨m, d⟩ : OFile) :: outs.drop q) = fileCells (outs.take q) ++ [.string m, .string d] ++ fileCells (outs.drop q) := by
    simp [fileCells]
  rw [e1, e2]
  exact h
theorem small_with {m d : ByteArray} {fs : List OFile} {q : Nat} (hall : ∀ f ∈ fs, f.path.size ≤ 120 ∧ f.data.size ≤ 200) (h10 : fs.length ≤ 10) (hm : m.size ≤ 40000) (hd : d.size ≤ 40000) : SmallF (withM m d fs q) := by
  have ho := out_len m fs
  refine ⟨?_, fun f hf => ?_⟩
  · rw [withM, List.length_append, List.length_cons, List.length_take, List.length_drop]; omega
  · have hin : ∀ x, x ∈ outF m fs → x.path.size ≤ 40000 ∧ x.data.size ≤ 40000 := fun x hx => by
      have := hall x (List.mem_filter.1 hx).1
      omega
    rcases List.mem_append.1 hf with h | h
    · exact hin f (List.mem_of_mem_take h)
    · rcases List.mem_cons.1 h with rfl | h
      · exact ⟨hm, hd⟩
      · exact hin f (List.mem_of_mem_drop h)
theorem row_new (w : World) (x y : ByteArray) : IsRow (w.alloc (.cells #[.string x, .string y] 55)) 2 (.slice (some ⟨w.heap.size, 0, none⟩) 1 1) 1 [.string x, .string y] := by
  refine ⟨rfl, _, 1, rfl, Nat.le_refl _, by unfold maxLen; omega, fun _ => ⟨_, _, rfl, by simp, fun j u hj => ?_⟩⟩
  have := cell_two w (.string x) (.string y) 55 j u hj
  by_cases h0 : j = 0
  · subst h0; simpa [Addr.add] using this
  · simpa [Addr.add, h0] using this
set_option maxRecDepth 100000 in
set_option maxHeartbeats 2000000 in
theorem LOwnersNearest_any (v : Value) (fs : List OFile) (p who : ByteArray) (w : World) (hv : Reads w [] (filesT fs) v) (hs : SizedF fs) (hpz : p.size ≤ 200000000000000) (hwz : who.size ≤ 9223372036854775807) :
    Calls Tryz.prog 12 #[v, .string p, .string who] w fun e w' => e = .returned (.bool true) ∧ Below w.heap.size w w' := by
  have HPt := Lib.hid (Patch_any v fs w hv hs)
  obtain ⟨a, cap, rfl, hc1, hc2⟩ := files_val hv
  have HV := Lib.hid hv
  have HG := Lib.hid (fun w' (hb : Below w.heap.size w w') => rGreat09_any (.slice a fs.length cap) fs w' (HV.out.below hb) hs)
  obtain ⟨i0, hi, hz0, hz1, hz2⟩ := info_parts infoFile
  obtain ⟨k, hks, hkp, HM⟩ : ∃ k : Nat, lastSlS p = (k : Int) - 1 ∧ k ≤ p.size ∧ Hid (mineOf p = p.extract 0 k ++ ⟨#[79, 87, 78, 69, 82, 83]⟩) := by
    have h1 := kL_le p
    have h2 : (lastSlS p + 1).toNat = kL p := rfl
    refine ⟨kL p, ?_, h1, fileAt_eq p _⟩
    rcases lastSlFrom_ge p.data.toList p.size with h | ⟨i, h⟩
    · unfold lastSlS at *
      have := lastSl_low p.data.toList p.size
      omega
    · unfold lastSlS at *
      omega
  have HL := Lib.hid (fun w => LastIndexByte_long p w hpz)
  rw [hks] at HL
  clear hv hs hks
  have hw1 : IntKind.i64.wrap ((k : Int) - 1 + 1) = (k : Int) := by rw [Int.sub_add_cancel]; exact IntWalk.i64_in _ (by omega)
  have hw1' : IntKind.i64.wrap (k : Int) = (k : Int) := IntWalk.i64_in _ (by omega)
  have hk0 : (0 : Int) ≤ (k : Int) := by omega
  have hk1 : (k : Int) ≤ (p.size : Int) := by omega
  have hk2 : ¬ 9223372036854775807 < min k p.size + 6 := by omega
  go_enter Tryz.func12, Tryz.ntmps12
  go_wp2_with (go_at_call 43; refine (HL.out _).mono ?_; rintro e w0 ⟨rfl, rfl⟩)
  rw [← HM.out]
  generalize hmn : mineOf p = m
  have HMN := Lib.hid hmn
  clear hmn HL
  refine HPt.out.mono ?_
  rintro e w1 ⟨lv, er, rfl, hP, hb1⟩
  have HG1 := Lib.hid (HG.out w1 hb1)
  clear HG HPt
  cases hgr : greatF fs with
  | true =>
    rw [hgr] at HG1
    go_wp2_with (first | (go_at_call 13; refine HG1.out.mono ?_; rintro e w2 ⟨rfl, rfl⟩) | (go_at_call 15; refine (awake_any _).mono ?_; rintro e w3 ⟨rfl, hb3⟩))
    go_ret
    exact ⟨rfl, qtrans hb1 hb3⟩
  | false =>
  rw [hgr] at HG1
  obtain ⟨h10, hall⟩ := greatF_small hgr
  clear hgr
  by_cases hpl : 120 < p.size
  · have hpd : decide (120 < (p.size : Int)) = true := decide_eq_true (by omega)
    go_wp2_with (first | (go_at_call 13; refine HG1.out.mono ?_; rintro e w2 ⟨rfl, rfl⟩) | (go_at_call 15; refine (awake_any _).mono ?_; rintro e w3 ⟨rfl, hb3⟩))
    go_ret
    exact ⟨rfl, qtrans hb1 hb3⟩
  have hpd : decide (120 < (p.size : Int)) = false := decide_eq_false (by omega)
  by_cases hwl : 40 < who.size
  · have hwd : decide (40 < (who.size : Int)) = true := decide_eq_true (by omega)
    go_wp2_with (first | (go_at_call 13; refine HG1.out.mono ?_; rintro e w2 ⟨rfl, rfl⟩) | (go_at_call 15; refine (awake_any _).mono ?_; rintro e w3 ⟨rfl, hb3⟩))
    go_ret
    exact ⟨rfl, qtrans hb1 hb3⟩
  have hwd : decide (40 < (who.size : Int)) = false := decide_eq_false (by omega)
  by_cases her : er = 0
  rotate_left
  · have herb : (er != 0) = true := by simp [her]
    go_wp2_with (first | (go_at_call 13; refine HG1.out.mono ?_; rintro e w2 ⟨rfl, rfl⟩) | (go_at_call 15; refine (awake_any _).mono ?_; rintro e w3 ⟨rfl, hb3⟩))
    go_ret
    exact ⟨rfl, qtrans hb1 hb3⟩
  have herb : (er != 0) = false := by simp [her]
  obtain ⟨ht, hrd⟩ := hP her
  obtain ⟨la, lc, rfl, hlc1, hlc2⟩ := files_val hrd
  have HR := Lib.hid hrd
  clear her hP hrd ht
  have hK := hk0
  go_wp2_with (go_at_call 13; refine HG1.out.mono ?_; rintro e w2 ⟨rfl, rfl⟩)
  clear HG1 hpd hwd herb
  go_loopw [52, 11] (fun i ov wr => ∃ q : Nat, q ≤ fs.length ∧ i = .int .i64 q ∧ OwnF wr w1.heap.size ov (outF m (fs.take q)) ∧ Below w1.heap.size w1 wr) (fun i _ _ => fs.length - (intOf i).toNat)
  case atStart => exact ⟨0, Nat.zero_le _, rfl, ⟨rfl, .inl ⟨rfl, rfl⟩⟩, qrefl _⟩
  case round =>
    obtain ⟨q, hq, rfl, hof, hbq⟩ := hrel
    by_cases hql : q < fs.length
    · obtain ⟨f, hf⟩ : ∃ f, fs[q]? = some f := ⟨_, List.getElem?_eq_getElem hql⟩
      have HTK := Lib.hid (out_snoc (m := m) hf)
      obtain ⟨b, o, rfl, hbb, hcp, hcd⟩ := files_elem (HR.out.below hbq) hf
      have hol := out_len m (fs.take q)
      rw [List.length_take] at hol
      have HEQ : Hid ((f.path.data.toList == m.data.toList) = (f.path.toList == m.toList)) := by show _ = _; rw [tl, tl]
      obtain ⟨ra, rc, rfl⟩ := hof.val
      clear hf
      cases hne : (f.path.toList == m.toList) with
      | true =>
        have hs4 : OwnF (wr.alloc (.cells #[.string f.path, .string f.data] 55)) w1.heap.size (.slice ra (outF m (fs.take q)).length rc) (outF m (fs.take (q + 1))) := by
          rw [HTK.out, HEQ.out, hne, if_pos rfl, List.append_nil]
          exact hof.below (qalloc _ _)
        have hb4 := qtrans hbq (qalloc wr (.cells #[.string f.path, .string f.data] 55))
        clear hof HTK
        go_wp2
        go_roundw
        case rel => exact ⟨q + 1, by omega, by go_num, hs4, hb4⟩
        case measure => simp [intOf]; omega
      | false =>
        unfold OwnF at hof
        go_wp2_with (at_builtin; refine wpList_append_own _ rfl _ _ 22 rfl w1.heap.size 55 i0 _ 2 32 Tryz.underlying22 hi hz0 hz1 hz2 rfl (by decide) _ _ _ rfl ((hof.alloc _).alloc _) ⟨wr.heap.size + 1, 0, none⟩ 1 1 [.string f.path, .string f.data] rfl rfl (cell_two' _ _ _ _ (by simp)) (by simp [Value.oneCell']) (by unfold maxLen; omega) (by omega) (by have := hbq.size; simp; omega) ?_)
        intro v4 w4 hown4 hg4 _
        have hb4 : Below w1.heap.size w1 w4 := (qtrans hbq (qtrans (qalloc _ _) (qalloc _ _))).grown hg4 (qtrans hbq (qtrans (qalloc _ _) (qalloc _ _))).size (fun k hk => owns_block hof hk)
        have hs4 : OwnF w4 w1.heap.size v4 (outF m (fs.take (q + 1))) := by
          rw [HTK.out, HEQ.out, hne]
          unfold OwnF
          rw [if_neg (by simp), fileCells_snoc, List.length_append]
          exact hown4
        clear hg4 hof hown4 HTK
        go_wp2
        go_roundw
        case rel => exact ⟨q + 1, by omega, by go_num, hs4, hb4⟩
        case measure => simp [intOf]; omega
    · have hkl : q = fs.length := by omega
      rw [hkl, List.take_length] at hof
      clear hkl hK
      have hol := out_len m fs
      have HOS : Hid (∀ f ∈ outF m fs, f ∈ fs) := fun f hf => (List.mem_filter.1 hf).1
      generalize hou : outF m fs = outs at *
      have HOU := Lib.hid hou
      clear hou
      have HOF := Lib.hid hof
      obtain ⟨ra, rc, rfl⟩ := hof.val
      have hrv := files_val hof.reads
      obtain ⟨_, _, e, hrc1, hrc2⟩ := hrv
      cases e
      clear hof
      generalize wr = wo at *
      have HBO : Below wo.heap.size wo wo.drew := (qrefl _).drew
      go_upto_block 2 with fail
      go_cut [14] from 65 to 79 (fun iv wx => ∃ q : Nat, q ≤ outs.length ∧ iv = .int .i64 q ∧ wo = wx)
      case first =>
        go_wp2_with fail
        go_loopw [14] (fun i wr => ∃ q : Nat, q ≤ outs.length ∧ i = .int .i64 q ∧ wr = wo) (fun i _ => outs.length - (intOf i).toNat)
        case atStart => exact ⟨0, Nat.zero_le _, rfl, rfl⟩
        case round =>
          obtain ⟨q, hq, rfl, rfl⟩ := hrel
          by_cases hql : q < outs.length
          · obtain ⟨g, hg⟩ : ∃ g, outs[q]? = some g := ⟨_, List.getElem?_eq_getElem hql⟩
            obtain ⟨b, o, rfl, hbb, hcp, hcd⟩ := files_elem HOF.out.reads hg
            cases hle : Op.bytesLess g.path.toList m.toList with
            | true =>
              go_wp2
              go_roundw
              case rel => exact ⟨q + 1, by omega, by go_num, trivial⟩
              case measure => simp [intOf]; omega
            | false =>
              go_wp2
              go_meet
              case rel => exact ⟨q, hq, rfl, rfl⟩
          · go_wp2
            go_meet
            case rel => exact ⟨q, hq, rfl, rfl⟩
      case rest =>
      obtain ⟨q, hq, rfl, rfl⟩ := hcut
      have hq0 : (0 : Int) ≤ (q : Int) := by omega
      have hq1 : (q : Int) ≤ (outs.length : Int) := by omega
      have hq2 : (q : Int) ≤ (rc : Int) := by omega
      have hn1 : ¬ 9223372036854775807 < 10 + who.size := by omega
      have hn2 : ¬ 9223372036854775807 < 10 + who.size + 2 := by omega
      go_upto_region 16 with (fail)
      have HNT : Hid ((⟨#[97, 108, 108, 32, 103, 114, 111, 117, 112, 32]⟩ : ByteArray) ++ who ++ ⟨#[32, 59]⟩ = nearT who) := rfl
      have HRT : Hid (∀ W, Below wo.heap.size wo W → IsRow W 2 (.slice ra q rc) q ((fileCells outs).take (q * 2))) := fun W hW => isRow_take (owns_row (HOF.out.below hW)) hq
      have hcase : Hid ((q < outs.length ∧ ∃ b o, ra = some ⟨b, o, none⟩) ∨ (q = outs.length ∧ q = rc) ∨ (q = outs.length ∧ ¬ rc = q)) := by
        by_cases hql : q < outs.length
        · obtain ⟨g, hg⟩ : ∃ g, outs[q]? = some g := ⟨_, List.getElem?_eq_getElem hql⟩
          obtain ⟨b, o, e, -⟩ := files_elem HOF.out.reads hg
          exact .inl ⟨hql, b, o, e⟩
        · exact .inr (by omega)
      -- GEN
      go_cut [15] from 80 to 95 (fun v wx => OwnF wx wo.heap.size v (withM m (nearT who) fs q) ∧ Below wo.heap.size wo wx)
      case first =>
        rcases hcase.out with ⟨hql, b, o, rfl⟩ | ⟨hql, hrq⟩ | ⟨hql, hrq⟩
        · have HRD : Hid (∀ W, Below wo.heap.size wo W → IsRow W 2 (.slice (some ⟨b, o + q * 2, none⟩) (outs.length - q) (rc - q)) (outs.length - q) ((fileCells outs).drop (q * 2))) := fun W hW => isRow_drop (owns_row (HOF.out.below hW)) hq
          refine wp_region_noPanic (region_plan (fun _ => True) (.take 1 (.take 2 (.take 3 (.take 5 (.take 6 (.take 7 (.take 8 (.take 9 (.take 12 (.take 13 (.take 14 (.two 0 10 (.two 4 10 (.one 10 (.one 11 (.one 15 (.one 16 .done)))) (.one 4 (.one 11 (.one 15 (.one 16 .done))))) (.one 0 (.one 4 (.one 11 (.one 15 (.one 16 .done))))))))))))))))) mixedK (by kernel_rfl) (fun _ _ _ _ _ h => h) trivial ?_)
          iterate 11 (refine plan_take (v := ?_) rfl (by rfl) ?_ ?_; rotate_left; (focus (intro wq hSw; (try dsimp only at hSw); go_simp; (try rw [if_neg (by first | omega | (simp; omega))]); (try with_reducible rfl))); (try simp only [List.getElem_toArray, List.getElem_cons_succ, List.getElem_cons_zero, Act.put, List.setIfInBounds_toArray, List.set_cons_zero, List.set_cons_succ]))
          rw [HNT.out]
          have h0 := HBO
          generalize wo.drew = W0 at *
          refine plan_two ?_ ?_
          · skip
            (refine plan_one rfl (by rfl) (fun K hK => ?_); go_simp)
            have o80 : OwnF (W0.alloc (.cells #[] 55)) wo.heap.size (.slice (some ⟨W0.heap.size, 0, none⟩) 0 0) [] := OwnF.new W0 wo.heap.size h0.size
            have l80 : W0.heap.size < (W0.alloc (.cells #[] 55)).heap.size := by simp
            have bW1 : Below wo.heap.size wo (W0.alloc (.cells #[] 55)) := qtrans h0 (qalloc _ _)
            (refine hK.out _ _ trivial ?_; clear hK K; (try simp only [List.getElem_toArray, List.getElem_cons_succ, List.getElem_cons_zero, Act.put, List.setIfInBounds_toArray, List.set_cons_zero, List.set_cons_succ]))
            generalize (W0.alloc (.cells #[] 55)) = W1 at *
            generalize W0.heap.size = z80 at *
            refine plan_two ?_ ?_
            · skip
              refine plan_one rfl (by rfl) (fun K hK => ?_)
              refine wp_append_row _ _ 22 rfl wo.heap.size 55 i0 _ 2 32 Tryz.underlying22 hi hz0 hz1 hz2 rfl (by decide) (.slice (some ⟨z80, 0, none⟩) 0 0) (0) ([]) rfl (show World.ownsRow _ wo.heap.size 55 2 _ 0 [] from o80) _ q ((fileCells outs).take (q * 2)) rfl (HRT.out _ bW1) (fun u hu => fileCells_one outs u (List.mem_of_mem_take hu)) (by unfold maxLen; omega) (by omega) bW1.size ?_
              intro v84 W2 o84 gW2
              have bW2 : Below wo.heap.size wo W2 := bW1.grown gW2 bW1.size (fun k hk => owns_block (show World.ownsRow _ wo.heap.size 55 2 _ 0 [] from o80) hk)
              (refine hK.out _ _ trivial ?_; clear hK K; (try simp only [List.getElem_toArray, List.getElem_cons_succ, List.getElem_cons_zero, Act.put, List.setIfInBounds_toArray, List.set_cons_zero, List.set_cons_succ]))
              (refine plan_one rfl (by rfl) (fun K hK => ?_); go_simp)
              have c90 : IsRow (W2.alloc (.cells #[.string m, .string (nearT who)] 55)) 2 (.slice (some ⟨W2.heap.size, 0, none⟩) 1 1) 1 [.string m, .string (nearT who)] := row_new W2 m (nearT who)
              have l90 : W2.heap.size < (W2.alloc (.cells #[.string m, .string (nearT who)] 55)).heap.size := by simp
              have o84' := o84.alloc (.cells #[.string m, .string (nearT who)] 55)
              have bW3 : Below wo.heap.size wo (W2.alloc (.cells #[.string m, .string (nearT who)] 55)) := qtrans bW2 (qalloc _ _)
              (refine hK.out _ _ trivial ?_; clear hK K; (try simp only [List.getElem_toArray, List.getElem_cons_succ, List.getElem_cons_zero, Act.put, List.setIfInBounds_toArray, List.set_cons_zero, List.set_cons_succ]))
              generalize (W2.alloc (.cells #[.string m, .string (nearT who)] 55)) = W3 at *
              generalize W2.heap.size = z90 at *
              refine plan_one rfl (by rfl) (fun K hK => ?_)
              refine wp_append_row _ _ 22 rfl wo.heap.size 55 i0 _ 2 32 Tryz.underlying22 hi hz0 hz1 hz2 rfl (by decide) v84 (0 + q) ([] ++ (fileCells outs).take (q * 2)) rfl o84' _ 1 ([.string m, .string (nearT who)]) rfl c90 (by simp [Value.oneCell']) (by unfold maxLen; omega) (by omega) bW3.size ?_
              intro v91 V91 o91 gV91
              have bV91 : Below wo.heap.size wo V91 := bW3.grown gV91 bW3.size (fun k hk => owns_block o84' hk)
              (refine hK.out _ _ trivial ?_; clear hK K; (try simp only [List.getElem_toArray, List.getElem_cons_succ, List.getElem_cons_zero, Act.put, List.setIfInBounds_toArray, List.set_cons_zero, List.set_cons_succ]))
              refine plan_one rfl (by rfl) (fun K hK => ?_)
              refine wp_append_row _ _ 22 rfl wo.heap.size 55 i0 _ 2 32 Tryz.underlying22 hi hz0 hz1 hz2 rfl (by decide) v91 (0 + q + 1) ([] ++ (fileCells outs).take (q * 2) ++ [.string m, .string (nearT who)]) rfl o91 _ (outs.length - q) ((fileCells outs).drop (q * 2)) rfl (by first | exact HRD.out _ bV91 | exact HRD.out _ _ 0 0 HQZ.out.symm (by omega) | exact HRD.out _ _ (outs.length - q) 0 rfl (by omega) | exact HRD.out _ _ 0 (rc - q) HQZ.out.symm (by omega) | exact HRD.out _ _ (outs.length - q) (rc - q) rfl (by omega)) (fun u hu => fileCells_one outs u (List.mem_of_mem_drop hu)) (by unfold maxLen; omega) (by omega) bV91.size ?_
              intro v95 V95 o95 gV95
              have bV95 : Below wo.heap.size wo V95 := bV91.grown gV95 bV91.size (fun k hk => owns_block o91 hk)
              (refine hK.out _ _ trivial ?_; clear hK K; (try simp only [List.getElem_toArray, List.getElem_cons_succ, List.getElem_cons_zero, Act.put, List.setIfInBounds_toArray, List.set_cons_zero, List.set_cons_succ]))
              (refine plan_one rfl (by rfl) (fun K hK => ?_); go_simp)
              (refine hK.out _ _ trivial ?_; clear hK K; (try simp only [List.getElem_toArray, List.getElem_cons_succ, List.getElem_cons_zero, Act.put, List.setIfInBounds_toArray, List.set_cons_zero, List.set_cons_succ]))
              refine plan_done ?_
              refine NoPanic.normal ?_
              go_wp2
              go_meet
              case rel => exact ⟨by rw [withM, HOU.out]; exact own_with hq o95, bV95⟩
            · skip
              (refine plan_one rfl (by rfl) (fun K hK => ?_); go_simp)
              have c90 : IsRow (W1.alloc (.cells #[.string m, .string (nearT who)] 55)) 2 (.slice (some ⟨W1.heap.size, 0, none⟩) 1 1) 1 [.string m, .string (nearT who)] := row_new W1 m (nearT who)
              have l90 : W1.heap.size < (W1.alloc (.cells #[.string m, .string (nearT who)] 55)).heap.size := by simp
              have o80' := o80.below (qalloc _ (.cells #[.string m, .string (nearT who)] 55))
              have bW2 : Below wo.heap.size wo (W1.alloc (.cells #[.string m, .string (nearT who)] 55)) := qtrans bW1 (qalloc _ _)
              (refine hK.out _ _ trivial ?_; clear hK K; (try simp only [List.getElem_toArray, List.getElem_cons_succ, List.getElem_cons_zero, Act.put, List.setIfInBounds_toArray, List.set_cons_zero, List.set_cons_succ]))
              generalize (W1.alloc (.cells #[.string m, .string (nearT who)] 55)) = W2 at *
              generalize W1.heap.size = z90 at *
              refine plan_one rfl (by rfl) (fun K hK => ?_)
              refine wp_append_row _ _ 22 rfl wo.heap.size 55 i0 _ 2 32 Tryz.underlying22 hi hz0 hz1 hz2 rfl (by decide) (.slice (some ⟨z80, 0, none⟩) 0 0) (0) ([]) rfl (show World.ownsRow _ wo.heap.size 55 2 _ 0 [] from o80') _ q ((fileCells outs).take (q * 2)) rfl (HRT.out _ bW2) (fun u hu => fileCells_one outs u (List.mem_of_mem_take hu)) (by unfold maxLen; omega) (by omega) bW2.size ?_
              intro v84 W3 o84 gW3
              have bW3 : Below wo.heap.size wo W3 := bW2.grown gW3 bW2.size (fun k hk => owns_block (show World.ownsRow _ wo.heap.size 55 2 _ 0 [] from o80') hk)
              have c90' := isRow_grown c90 gW3 (fun e => by cases e; dsimp only at *; omega)
              (refine hK.out _ _ trivial ?_; clear hK K; (try simp only [List.getElem_toArray, List.getElem_cons_succ, List.getElem_cons_zero, Act.put, List.setIfInBounds_toArray, List.set_cons_zero, List.set_cons_succ]))
              refine plan_one rfl (by rfl) (fun K hK => ?_)
              refine wp_append_row _ _ 22 rfl wo.heap.size 55 i0 _ 2 32 Tryz.underlying22 hi hz0 hz1 hz2 rfl (by decide) v84 (0 + q) ([] ++ (fileCells outs).take (q * 2)) rfl o84 _ 1 ([.string m, .string (nearT who)]) rfl c90' (by simp [Value.oneCell']) (by unfold maxLen; omega) (by omega) bW3.size ?_
              intro v91 V91 o91 gV91
              have bV91 : Below wo.heap.size wo V91 := bW3.grown gV91 bW3.size (fun k hk => owns_block o84 hk)
              (refine hK.out _ _ trivial ?_; clear hK K; (try simp only [List.getElem_toArray, List.getElem_cons_succ, List.getElem_cons_zero, Act.put, List.setIfInBounds_toArray, List.set_cons_zero, List.set_cons_succ]))
              refine plan_one rfl (by rfl) (fun K hK => ?_)
              refine wp_append_row _ _ 22 rfl wo.heap.size 55 i0 _ 2 32 Tryz.underlying22 hi hz0 hz1 hz2 rfl (by decide) v91 (0 + q + 1) ([] ++ (fileCells outs).take (q * 2) ++ [.string m, .string (nearT who)]) rfl o91 _ (outs.length - q) ((fileCells outs).drop (q * 2)) rfl (by first | exact HRD.out _ bV91 | exact HRD.out _ _ 0 0 HQZ.out.symm (by omega) | exact HRD.out _ _ (outs.length - q) 0 rfl (by omega) | exact HRD.out _ _ 0 (rc - q) HQZ.out.symm (by omega) | exact HRD.out _ _ (outs.length - q) (rc - q) rfl (by omega)) (fun u hu => fileCells_one outs u (List.mem_of_mem_drop hu)) (by unfold maxLen; omega) (by omega) bV91.size ?_
              intro v95 V95 o95 gV95
              have bV95 : Below wo.heap.size wo V95 := bV91.grown gV95 bV91.size (fun k hk => owns_block o91 hk)
              (refine hK.out _ _ trivial ?_; clear hK K; (try simp only [List.getElem_toArray, List.getElem_cons_succ, List.getElem_cons_zero, Act.put, List.setIfInBounds_toArray, List.set_cons_zero, List.set_cons_succ]))
              (refine plan_one rfl (by rfl) (fun K hK => ?_); go_simp)
              (refine hK.out _ _ trivial ?_; clear hK K; (try simp only [List.getElem_toArray, List.getElem_cons_succ, List.getElem_cons_zero, Act.put, List.setIfInBounds_toArray, List.set_cons_zero, List.set_cons_succ]))
              refine plan_done ?_
              refine NoPanic.normal ?_
              go_wp2
              go_meet
              case rel => exact ⟨by rw [withM, HOU.out]; exact own_with hq o95, bV95⟩
          · skip
            (refine plan_one rfl (by rfl) (fun K hK => ?_); go_simp)
            have c90 : IsRow (W0.alloc (.cells #[.string m, .string (nearT who)] 55)) 2 (.slice (some ⟨W0.heap.size, 0, none⟩) 1 1) 1 [.string m, .string (nearT who)] := row_new W0 m (nearT who)
            have l90 : W0.heap.size < (W0.alloc (.cells #[.string m, .string (nearT who)] 55)).heap.size := by simp
            have bW1 : Below wo.heap.size wo (W0.alloc (.cells #[.string m, .string (nearT who)] 55)) := qtrans h0 (qalloc _ _)
            (refine hK.out _ _ trivial ?_; clear hK K; (try simp only [List.getElem_toArray, List.getElem_cons_succ, List.getElem_cons_zero, Act.put, List.setIfInBounds_toArray, List.set_cons_zero, List.set_cons_succ]))
            generalize (W0.alloc (.cells #[.string m, .string (nearT who)] 55)) = W1 at *
            generalize W0.heap.size = z90 at *
            (refine plan_one rfl (by rfl) (fun K hK => ?_); go_simp)
            have o80 : OwnF (W1.alloc (.cells #[] 55)) wo.heap.size (.slice (some ⟨W1.heap.size, 0, none⟩) 0 0) [] := OwnF.new W1 wo.heap.size bW1.size
            have l80 : W1.heap.size < (W1.alloc (.cells #[] 55)).heap.size := by simp
            have c90' := IsRow.below c90 (qalloc _ (.cells #[] 55))
            have bW2 : Below wo.heap.size wo (W1.alloc (.cells #[] 55)) := qtrans bW1 (qalloc _ _)
            (refine hK.out _ _ trivial ?_; clear hK K; (try simp only [List.getElem_toArray, List.getElem_cons_succ, List.getElem_cons_zero, Act.put, List.setIfInBounds_toArray, List.set_cons_zero, List.set_cons_succ]))
            generalize (W1.alloc (.cells #[] 55)) = W2 at *
            generalize W1.heap.size = z80 at *
            refine plan_one rfl (by rfl) (fun K hK => ?_)
            refine wp_append_row _ _ 22 rfl wo.heap.size 55 i0 _ 2 32 Tryz.underlying22 hi hz0 hz1 hz2 rfl (by decide) (.slice (some ⟨z80, 0, none⟩) 0 0) (0) ([]) rfl (show World.ownsRow _ wo.heap.size 55 2 _ 0 [] from o80) _ q ((fileCells outs).take (q * 2)) rfl (HRT.out _ bW2) (fun u hu => fileCells_one outs u (List.mem_of_mem_take hu)) (by unfold maxLen; omega) (by omega) bW2.size ?_
            intro v84 W3 o84 gW3
            have bW3 : Below wo.heap.size wo W3 := bW2.grown gW3 bW2.size (fun k hk => owns_block (show World.ownsRow _ wo.heap.size 55 2 _ 0 [] from o80) hk)
            have c90'' := isRow_grown c90' gW3 (fun e => by cases e; dsimp only at *; omega)
            (refine hK.out _ _ trivial ?_; clear hK K; (try simp only [List.getElem_toArray, List.getElem_cons_succ, List.getElem_cons_zero, Act.put, List.setIfInBounds_toArray, List.set_cons_zero, List.set_cons_succ]))
            refine plan_one rfl (by rfl) (fun K hK => ?_)
            refine wp_append_row _ _ 22 rfl wo.heap.size 55 i0 _ 2 32 Tryz.underlying22 hi hz0 hz1 hz2 rfl (by decide) v84 (0 + q) ([] ++ (fileCells outs).take (q * 2)) rfl o84 _ 1 ([.string m, .string (nearT who)]) rfl c90'' (by simp [Value.oneCell']) (by unfold maxLen; omega) (by omega) bW3.size ?_
            intro v91 V91 o91 gV91
            have bV91 : Below wo.heap.size wo V91 := bW3.grown gV91 bW3.size (fun k hk => owns_block o84 hk)
            (refine hK.out _ _ trivial ?_; clear hK K; (try simp only [List.getElem_toArray, List.getElem_cons_succ, List.getElem_cons_zero, Act.put, List.setIfInBounds_toArray, List.set_cons_zero, List.set_cons_succ]))
            refine plan_one rfl (by rfl) (fun K hK => ?_)
            refine wp_append_row _ _ 22 rfl wo.heap.size 55 i0 _ 2 32 Tryz.underlying22 hi hz0 hz1 hz2 rfl (by decide) v91 (0 + q + 1) ([] ++ (fileCells outs).take (q * 2) ++ [.string m, .string (nearT who)]) rfl o91 _ (outs.length - q) ((fileCells outs).drop (q * 2)) rfl (by first | exact HRD.out _ bV91 | exact HRD.out _ _ 0 0 HQZ.out.symm (by omega) | exact HRD.out _ _ (outs.length - q) 0 rfl (by omega) | exact HRD.out _ _ 0 (rc - q) HQZ.out.symm (by omega) | exact HRD.out _ _ (outs.length - q) (rc - q) rfl (by omega)) (fun u hu => fileCells_one outs u (List.mem_of_mem_drop hu)) (by unfold maxLen; omega) (by omega) bV91.size ?_
            intro v95 V95 o95 gV95
            have bV95 : Below wo.heap.size wo V95 := bV91.grown gV95 bV91.size (fun k hk => owns_block o91 hk)
            (refine hK.out _ _ trivial ?_; clear hK K; (try simp only [List.getElem_toArray, List.getElem_cons_succ, List.getElem_cons_zero, Act.put, List.setIfInBounds_toArray, List.set_cons_zero, List.set_cons_succ]))
            (refine plan_one rfl (by rfl) (fun K hK => ?_); go_simp)
            (refine hK.out _ _ trivial ?_; clear hK K; (try simp only [List.getElem_toArray, List.getElem_cons_succ, List.getElem_cons_zero, Act.put, List.setIfInBounds_toArray, List.set_cons_zero, List.set_cons_succ]))
            refine plan_done ?_
            refine NoPanic.normal ?_
            go_wp2
            go_meet
            case rel => exact ⟨by rw [withM, HOU.out]; exact own_with hq o95, bV95⟩
        · subst hrq
          have HQZ : Hid (outs.length - q = 0) := by show _ = _; omega
          have HRD : Hid (∀ W a n c, n = outs.length - q → c ≤ 9223372036854775807 → IsRow W 2 (.slice a n c) (outs.length - q) ((fileCells outs).drop (q * 2))) := fun W a n c hn hc => by rw [hn]; exact isRow_none W a _ (by omega) (by unfold maxLen; omega) (List.drop_eq_nil_of_le (by rw [fileCells_len]; omega))
          clear hql
          refine wp_region_noPanic (region_plan (fun _ => True) (.take 1 (.take 2 (.take 3 (.take 5 (.take 6 (.take 7 (.take 8 (.take 9 (.take 12 (.take 13 (.take 14 (.two 0 10 (.two 4 10 (.one 10 (.one 11 (.one 15 (.one 16 .done)))) (.one 4 (.one 11 (.one 15 (.one 16 .done))))) (.one 0 (.one 4 (.one 11 (.one 15 (.one 16 .done))))))))))))))))) mixedK (by kernel_rfl) (fun _ _ _ _ _ h => h) trivial ?_)
          iterate 11 (refine plan_take (v := ?_) rfl (by rfl) ?_ ?_; rotate_left; (focus (intro wq hSw; (try dsimp only at hSw); go_simp; (try rw [if_neg (by first | omega | (simp; omega))]); (try with_reducible rfl))); (try simp only [List.getElem_toArray, List.getElem_cons_succ, List.getElem_cons_zero, Act.put, List.setIfInBounds_toArray, List.set_cons_zero, List.set_cons_succ]))
          rw [HNT.out]
          have h0 := HBO
          generalize wo.drew = W0 at *
          refine plan_two ?_ ?_
          · skip
            (refine plan_one rfl (by rfl) (fun K hK => ?_); go_simp)
            have o80 : OwnF (W0.alloc (.cells #[] 55)) wo.heap.size (.slice (some ⟨W0.heap.size, 0, none⟩) 0 0) [] := OwnF.new W0 wo.heap.size h0.size
            have l80 : W0.heap.size < (W0.alloc (.cells #[] 55)).heap.size := by simp
            have bW1 : Below wo.heap.size wo (W0.alloc (.cells #[] 55)) := qtrans h0 (qalloc _ _)
            (refine hK.out _ _ trivial ?_; clear hK K; (try simp only [List.getElem_toArray, List.getElem_cons_succ, List.getElem_cons_zero, Act.put, List.setIfInBounds_toArray, List.set_cons_zero, List.set_cons_succ]))
            generalize (W0.alloc (.cells #[] 55)) = W1 at *
            generalize W0.heap.size = z80 at *
            refine plan_two ?_ ?_
            · skip
              refine plan_one rfl (by rfl) (fun K hK => ?_)
              refine wp_append_row _ _ 22 rfl wo.heap.size 55 i0 _ 2 32 Tryz.underlying22 hi hz0 hz1 hz2 rfl (by decide) (.slice (some ⟨z80, 0, none⟩) 0 0) (0) ([]) rfl (show World.ownsRow _ wo.heap.size 55 2 _ 0 [] from o80) _ q ((fileCells outs).take (q * 2)) rfl (HRT.out _ bW1) (fun u hu => fileCells_one outs u (List.mem_of_mem_take hu)) (by unfold maxLen; omega) (by omega) bW1.size ?_
              intro v84 W2 o84 gW2
              have bW2 : Below wo.heap.size wo W2 := bW1.grown gW2 bW1.size (fun k hk => owns_block (show World.ownsRow _ wo.heap.size 55 2 _ 0 [] from o80) hk)
              (refine hK.out _ _ trivial ?_; clear hK K; (try simp only [List.getElem_toArray, List.getElem_cons_succ, List.getElem_cons_zero, Act.put, List.setIfInBounds_toArray, List.set_cons_zero, List.set_cons_succ]))
              (refine plan_one rfl (by rfl) (fun K hK => ?_); go_simp)
              have c90 : IsRow (W2.alloc (.cells #[.string m, .string (nearT who)] 55)) 2 (.slice (some ⟨W2.heap.size, 0, none⟩) 1 1) 1 [.string m, .string (nearT who)] := row_new W2 m (nearT who)
              have l90 : W2.heap.size < (W2.alloc (.cells #[.string m, .string (nearT who)] 55)).heap.size := by simp
              have o84' := o84.alloc (.cells #[.string m, .string (nearT who)] 55)
              have bW3 : Below wo.heap.size wo (W2.alloc (.cells #[.string m, .string (nearT who)] 55)) := qtrans bW2 (qalloc _ _)
              (refine hK.out _ _ trivial ?_; clear hK K; (try simp only [List.getElem_toArray, List.getElem_cons_succ, List.getElem_cons_zero, Act.put, List.setIfInBounds_toArray, List.set_cons_zero, List.set_cons_succ]))
              generalize (W2.alloc (.cells #[.string m, .string (nearT who)] 55)) = W3 at *
              generalize W2.heap.size = z90 at *
              refine plan_one rfl (by rfl) (fun K hK => ?_)
              refine wp_append_row _ _ 22 rfl wo.heap.size 55 i0 _ 2 32 Tryz.underlying22 hi hz0 hz1 hz2 rfl (by decide) v84 (0 + q) ([] ++ (fileCells outs).take (q * 2)) rfl o84' _ 1 ([.string m, .string (nearT who)]) rfl c90 (by simp [Value.oneCell']) (by unfold maxLen; omega) (by omega) bW3.size ?_
              intro v91 V91 o91 gV91
              have bV91 : Below wo.heap.size wo V91 := bW3.grown gV91 bW3.size (fun k hk => owns_block o84' hk)
              (refine hK.out _ _ trivial ?_; clear hK K; (try simp only [List.getElem_toArray, List.getElem_cons_succ, List.getElem_cons_zero, Act.put, List.setIfInBounds_toArray, List.set_cons_zero, List.set_cons_succ]))
              refine plan_one rfl (by rfl) (fun K hK => ?_)
              refine wp_append_row _ _ 22 rfl wo.heap.size 55 i0 _ 2 32 Tryz.underlying22 hi hz0 hz1 hz2 rfl (by decide) v91 (0 + q + 1) ([] ++ (fileCells outs).take (q * 2) ++ [.string m, .string (nearT who)]) rfl o91 _ (outs.length - q) ((fileCells outs).drop (q * 2)) rfl (by first | exact HRD.out _ bV91 | exact HRD.out _ _ 0 0 HQZ.out.symm (by omega) | exact HRD.out _ _ (outs.length - q) 0 rfl (by omega) | exact HRD.out _ _ 0 (rc - q) HQZ.out.symm (by omega) | exact HRD.out _ _ (outs.length - q) (rc - q) rfl (by omega)) (fun u hu => fileCells_one outs u (List.mem_of_mem_drop hu)) (by unfold maxLen; omega) (by omega) bV91.size ?_
              intro v95 V95 o95 gV95
              have bV95 : Below wo.heap.size wo V95 := bV91.grown gV95 bV91.size (fun k hk => owns_block o91 hk)
              (refine hK.out _ _ trivial ?_; clear hK K; (try simp only [List.getElem_toArray, List.getElem_cons_succ, List.getElem_cons_zero, Act.put, List.setIfInBounds_toArray, List.set_cons_zero, List.set_cons_succ]))
              (refine plan_one rfl (by rfl) (fun K hK => ?_); go_simp)
              (refine hK.out _ _ trivial ?_; clear hK K; (try simp only [List.getElem_toArray, List.getElem_cons_succ, List.getElem_cons_zero, Act.put, List.setIfInBounds_toArray, List.set_cons_zero, List.set_cons_succ]))
              refine plan_done ?_
              refine NoPanic.normal ?_
              go_wp2
              go_meet
              case rel => exact ⟨by rw [withM, HOU.out]; exact own_with hq o95, bV95⟩
            · skip
              (refine plan_one rfl (by rfl) (fun K hK => ?_); go_simp)
              have c90 : IsRow (W1.alloc (.cells #[.string m, .string (nearT who)] 55)) 2 (.slice (some ⟨W1.heap.size, 0, none⟩) 1 1) 1 [.string m, .string (nearT who)] := row_new W1 m (nearT who)
              have l90 : W1.heap.size < (W1.alloc (.cells #[.string m, .string (nearT who)] 55)).heap.size := by simp
              have o80' := o80.below (qalloc _ (.cells #[.string m, .string (nearT who)] 55))
              have bW2 : Below wo.heap.size wo (W1.alloc (.cells #[.string m, .string (nearT who)] 55)) := qtrans bW1 (qalloc _ _)
              (refine hK.out _ _ trivial ?_; clear hK K; (try simp only [List.getElem_toArray, List.getElem_cons_succ, List.getElem_cons_zero, Act.put, List.setIfInBounds_toArray, List.set_cons_zero, List.set_cons_succ]))
              generalize (W1.alloc (.cells #[.string m, .string (nearT who)] 55)) = W2 at *
              generalize W1.heap.size = z90 at *
              refine plan_one rfl (by rfl) (fun K hK => ?_)
              refine wp_append_row _ _ 22 rfl wo.heap.size 55 i0 _ 2 32 Tryz.underlying22 hi hz0 hz1 hz2 rfl (by decide) (.slice (some ⟨z80, 0, none⟩) 0 0) (0) ([]) rfl (show World.ownsRow _ wo.heap.size 55 2 _ 0 [] from o80') _ q ((fileCells outs).take (q * 2)) rfl (HRT.out _ bW2) (fun u hu => fileCells_one outs u (List.mem_of_mem_take hu)) (by unfold maxLen; omega) (by omega) bW2.size ?_
              intro v84 W3 o84 gW3
              have bW3 : Below wo.heap.size wo W3 := bW2.grown gW3 bW2.size (fun k hk => owns_block (show World.ownsRow _ wo.heap.size 55 2 _ 0 [] from o80') hk)
              have c90' := isRow_grown c90 gW3 (fun e => by cases e; dsimp only at *; omega)
              (refine hK.out _ _ trivial ?_; clear hK K; (try simp only [List.getElem_toArray, List.getElem_cons_succ, List.getElem_cons_zero, Act.put, List.setIfInBounds_toArray, List.set_cons_zero, List.set_cons_succ]))
              refine plan_one rfl (by rfl) (fun K hK => ?_)
              refine wp_append_row _ _ 22 rfl wo.heap.size 55 i0 _ 2 32 Tryz.underlying22 hi hz0 hz1 hz2 rfl (by decide) v84 (0 + q) ([] ++ (fileCells outs).take (q * 2)) rfl o84 _ 1 ([.string m, .string (nearT who)]) rfl c90' (by simp [Value.oneCell']) (by unfold maxLen; omega) (by omega) bW3.size ?_
              intro v91 V91 o91 gV91
              have bV91 : Below wo.heap.size wo V91 := bW3.grown gV91 bW3.size (fun k hk => owns_block o84 hk)
              (refine hK.out _ _ trivial ?_; clear hK K; (try simp only [List.getElem_toArray, List.getElem_cons_succ, List.getElem_cons_zero, Act.put, List.setIfInBounds_toArray, List.set_cons_zero, List.set_cons_succ]))
              refine plan_one rfl (by rfl) (fun K hK => ?_)
              refine wp_append_row _ _ 22 rfl wo.heap.size 55 i0 _ 2 32 Tryz.underlying22 hi hz0 hz1 hz2 rfl (by decide) v91 (0 + q + 1) ([] ++ (fileCells outs).take (q * 2) ++ [.string m, .string (nearT who)]) rfl o91 _ (outs.length - q) ((fileCells outs).drop (q * 2)) rfl (by first | exact HRD.out _ bV91 | exact HRD.out _ _ 0 0 HQZ.out.symm (by omega) | exact HRD.out _ _ (outs.length - q) 0 rfl (by omega) | exact HRD.out _ _ 0 (rc - q) HQZ.out.symm (by omega) | exact HRD.out _ _ (outs.length - q) (rc - q) rfl (by omega)) (fun u hu => fileCells_one outs u (List.mem_of_mem_drop hu)) (by unfold maxLen; omega) (by omega) bV91.size ?_
              intro v95 V95 o95 gV95
              have bV95 : Below wo.heap.size wo V95 := bV91.grown gV95 bV91.size (fun k hk => owns_block o91 hk)
              (refine hK.out _ _ trivial ?_; clear hK K; (try simp only [List.getElem_toArray, List.getElem_cons_succ, List.getElem_cons_zero, Act.put, List.setIfInBounds_toArray, List.set_cons_zero, List.set_cons_succ]))
              (refine plan_one rfl (by rfl) (fun K hK => ?_); go_simp)
              (refine hK.out _ _ trivial ?_; clear hK K; (try simp only [List.getElem_toArray, List.getElem_cons_succ, List.getElem_cons_zero, Act.put, List.setIfInBounds_toArray, List.set_cons_zero, List.set_cons_succ]))
              refine plan_done ?_
              refine NoPanic.normal ?_
              go_wp2
              go_meet
              case rel => exact ⟨by rw [withM, HOU.out]; exact own_with hq o95, bV95⟩
          · skip
            (refine plan_one rfl (by rfl) (fun K hK => ?_); go_simp)
            have c90 : IsRow (W0.alloc (.cells #[.string m, .string (nearT who)] 55)) 2 (.slice (some ⟨W0.heap.size, 0, none⟩) 1 1) 1 [.string m, .string (nearT who)] := row_new W0 m (nearT who)
            have l90 : W0.heap.size < (W0.alloc (.cells #[.string m, .string (nearT who)] 55)).heap.size := by simp
            have bW1 : Below wo.heap.size wo (W0.alloc (.cells #[.string m, .string (nearT who)] 55)) := qtrans h0 (qalloc _ _)
            (refine hK.out _ _ trivial ?_; clear hK K; (try simp only [List.getElem_toArray, List.getElem_cons_succ, List.getElem_cons_zero, Act.put, List.setIfInBounds_toArray, List.set_cons_zero, List.set_cons_succ]))
            generalize (W0.alloc (.cells #[.string m, .string (nearT who)] 55)) = W1 at *
            generalize W0.heap.size = z90 at *
            (refine plan_one rfl (by rfl) (fun K hK => ?_); go_simp)
            have o80 : OwnF (W1.alloc (.cells #[] 55)) wo.heap.size (.slice (some ⟨W1.heap.size, 0, none⟩) 0 0) [] := OwnF.new W1 wo.heap.size bW1.size
            have l80 : W1.heap.size < (W1.alloc (.cells #[] 55)).heap.size := by simp
            have c90' := IsRow.below c90 (qalloc _ (.cells #[] 55))
            have bW2 : Below wo.heap.size wo (W1.alloc (.cells #[] 55)) := qtrans bW1 (qalloc _ _)
            (refine hK.out _ _ trivial ?_; clear hK K; (try simp only [List.getElem_toArray, List.getElem_cons_succ, List.getElem_cons_zero, Act.put, List.setIfInBounds_toArray, List.set_cons_zero, List.set_cons_succ]))
            generalize (W1.alloc (.cells #[] 55)) = W2 at *
            generalize W1.heap.size = z80 at *
            refine plan_one rfl (by rfl) (fun K hK => ?_)
            refine wp_append_row _ _ 22 rfl wo.heap.size 55 i0 _ 2 32 Tryz.underlying22 hi hz0 hz1 hz2 rfl (by decide) (.slice (some ⟨z80, 0, none⟩) 0 0) (0) ([]) rfl (show World.ownsRow _ wo.heap.size 55 2 _ 0 [] from o80) _ q ((fileCells outs).take (q * 2)) rfl (HRT.out _ bW2) (fun u hu => fileCells_one outs u (List.mem_of_mem_take hu)) (by unfold maxLen; omega) (by omega) bW2.size ?_
            intro v84 W3 o84 gW3
            have bW3 : Below wo.heap.size wo W3 := bW2.grown gW3 bW2.size (fun k hk => owns_block (show World.ownsRow _ wo.heap.size 55 2 _ 0 [] from o80) hk)
            have c90'' := isRow_grown c90' gW3 (fun e => by cases e; dsimp only at *; omega)
            (refine hK.out _ _ trivial ?_; clear hK K; (try simp only [List.getElem_toArray, List.getElem_cons_succ, List.getElem_cons_zero, Act.put, List.setIfInBounds_toArray, List.set_cons_zero, List.set_cons_succ]))
            refine plan_one rfl (by rfl) (fun K hK => ?_)
            refine wp_append_row _ _ 22 rfl wo.heap.size 55 i0 _ 2 32 Tryz.underlying22 hi hz0 hz1 hz2 rfl (by decide) v84 (0 + q) ([] ++ (fileCells outs).take (q * 2)) rfl o84 _ 1 ([.string m, .string (nearT who)]) rfl c90'' (by simp [Value.oneCell']) (by unfold maxLen; omega) (by omega) bW3.size ?_
            intro v91 V91 o91 gV91
            have bV91 : Below wo.heap.size wo V91 := bW3.grown gV91 bW3.size (fun k hk => owns_block o84 hk)
            (refine hK.out _ _ trivial ?_; clear hK K; (try simp only [List.getElem_toArray, List.getElem_cons_succ, List.getElem_cons_zero, Act.put, List.setIfInBounds_toArray, List.set_cons_zero, List.set_cons_succ]))
            refine plan_one rfl (by rfl) (fun K hK => ?_)
            refine wp_append_row _ _ 22 rfl wo.heap.size 55 i0 _ 2 32 Tryz.underlying22 hi hz0 hz1 hz2 rfl (by decide) v91 (0 + q + 1) ([] ++ (fileCells outs).take (q * 2) ++ [.string m, .string (nearT who)]) rfl o91 _ (outs.length - q) ((fileCells outs).drop (q * 2)) rfl (by first | exact HRD.out _ bV91 | exact HRD.out _ _ 0 0 HQZ.out.symm (by omega) | exact HRD.out _ _ (outs.length - q) 0 rfl (by omega) | exact HRD.out _ _ 0 (rc - q) HQZ.out.symm (by omega) | exact HRD.out _ _ (outs.length - q) (rc - q) rfl (by omega)) (fun u hu => fileCells_one outs u (List.mem_of_mem_drop hu)) (by unfold maxLen; omega) (by omega) bV91.size ?_
            intro v95 V95 o95 gV95
            have bV95 : Below wo.heap.size wo V95 := bV91.grown gV95 bV91.size (fun k hk => owns_block o91 hk)
            (refine hK.out _ _ trivial ?_; clear hK K; (try simp only [List.getElem_toArray, List.getElem_cons_succ, List.getElem_cons_zero, Act.put, List.setIfInBounds_toArray, List.set_cons_zero, List.set_cons_succ]))
            (refine plan_one rfl (by rfl) (fun K hK => ?_); go_simp)
            (refine hK.out _ _ trivial ?_; clear hK K; (try simp only [List.getElem_toArray, List.getElem_cons_succ, List.getElem_cons_zero, Act.put, List.setIfInBounds_toArray, List.set_cons_zero, List.set_cons_succ]))
            refine plan_done ?_
            refine NoPanic.normal ?_
            go_wp2
            go_meet
            case rel => exact ⟨by rw [withM, HOU.out]; exact own_with hq o95, bV95⟩
        · skip
          have HQZ : Hid (outs.length - q = 0) := by show _ = _; omega
          have HRD : Hid (∀ W a n c, n = outs.length - q → c ≤ 9223372036854775807 → IsRow W 2 (.slice a n c) (outs.length - q) ((fileCells outs).drop (q * 2))) := fun W a n c hn hc => by rw [hn]; exact isRow_none W a _ (by omega) (by unfold maxLen; omega) (List.drop_eq_nil_of_le (by rw [fileCells_len]; omega))
          clear hql
          refine wp_region_noPanic (region_plan (fun _ => True) (.take 1 (.take 2 (.take 3 (.take 5 (.take 6 (.take 7 (.take 8 (.take 9 (.take 12 (.take 13 (.take 14 (.two 0 10 (.two 4 10 (.one 10 (.one 11 (.one 15 (.one 16 .done)))) (.one 4 (.one 11 (.one 15 (.one 16 .done))))) (.one 0 (.one 4 (.one 11 (.one 15 (.one 16 .done))))))))))))))))) mixedK (by kernel_rfl) (fun _ _ _ _ _ h => h) trivial ?_)
          iterate 11 (refine plan_take (v := ?_) rfl (by rfl) ?_ ?_; rotate_left; (focus (intro wq hSw; (try dsimp only at hSw); go_simp; (try rw [if_neg (by first | omega | (simp; omega))]); (try with_reducible rfl))); (try simp only [List.getElem_toArray, List.getElem_cons_succ, List.getElem_cons_zero, Act.put, List.setIfInBounds_toArray, List.set_cons_zero, List.set_cons_succ]))
          rw [HNT.out]
          have h0 := HBO
          generalize wo.drew = W0 at *
          refine plan_two ?_ ?_
          · skip
            (refine plan_one rfl (by rfl) (fun K hK => ?_); go_simp)
            have o80 : OwnF (W0.alloc (.cells #[] 55)) wo.heap.size (.slice (some ⟨W0.heap.size, 0, none⟩) 0 0) [] := OwnF.new W0 wo.heap.size h0.size
            have l80 : W0.heap.size < (W0.alloc (.cells #[] 55)).heap.size := by simp
            have bW1 : Below wo.heap.size wo (W0.alloc (.cells #[] 55)) := qtrans h0 (qalloc _ _)
            (refine hK.out _ _ trivial ?_; clear hK K; (try simp only [List.getElem_toArray, List.getElem_cons_succ, List.getElem_cons_zero, Act.put, List.setIfInBounds_toArray, List.set_cons_zero, List.set_cons_succ]))
            generalize (W0.alloc (.cells #[] 55)) = W1 at *
            generalize W0.heap.size = z80 at *
            refine plan_two ?_ ?_
            · skip
              refine plan_one rfl (by rfl) (fun K hK => ?_)
              refine wp_append_row _ _ 22 rfl wo.heap.size 55 i0 _ 2 32 Tryz.underlying22 hi hz0 hz1 hz2 rfl (by decide) (.slice (some ⟨z80, 0, none⟩) 0 0) (0) ([]) rfl (show World.ownsRow _ wo.heap.size 55 2 _ 0 [] from o80) _ q ((fileCells outs).take (q * 2)) rfl (HRT.out _ bW1) (fun u hu => fileCells_one outs u (List.mem_of_mem_take hu)) (by unfold maxLen; omega) (by omega) bW1.size ?_
              intro v84 W2 o84 gW2
              have bW2 : Below wo.heap.size wo W2 := bW1.grown gW2 bW1.size (fun k hk => owns_block (show World.ownsRow _ wo.heap.size 55 2 _ 0 [] from o80) hk)
              (refine hK.out _ _ trivial ?_; clear hK K; (try simp only [List.getElem_toArray, List.getElem_cons_succ, List.getElem_cons_zero, Act.put, List.setIfInBounds_toArray, List.set_cons_zero, List.set_cons_succ]))
              (refine plan_one rfl (by rfl) (fun K hK => ?_); go_simp)
              have c90 : IsRow (W2.alloc (.cells #[.string m, .string (nearT who)] 55)) 2 (.slice (some ⟨W2.heap.size, 0, none⟩) 1 1) 1 [.string m, .string (nearT who)] := row_new W2 m (nearT who)
              have l90 : W2.heap.size < (W2.alloc (.cells #[.string m, .string (nearT who)] 55)).heap.size := by simp
              have o84' := o84.alloc (.cells #[.string m, .string (nearT who)] 55)
              have bW3 : Below wo.heap.size wo (W2.alloc (.cells #[.string m, .string (nearT who)] 55)) := qtrans bW2 (qalloc _ _)
              (refine hK.out _ _ trivial ?_; clear hK K; (try simp only [List.getElem_toArray, List.getElem_cons_succ, List.getElem_cons_zero, Act.put, List.setIfInBounds_toArray, List.set_cons_zero, List.set_cons_succ]))
              generalize (W2.alloc (.cells #[.string m, .string (nearT who)] 55)) = W3 at *
              generalize W2.heap.size = z90 at *
              refine plan_one rfl (by rfl) (fun K hK => ?_)
              refine wp_append_row _ _ 22 rfl wo.heap.size 55 i0 _ 2 32 Tryz.underlying22 hi hz0 hz1 hz2 rfl (by decide) v84 (0 + q) ([] ++ (fileCells outs).take (q * 2)) rfl o84' _ 1 ([.string m, .string (nearT who)]) rfl c90 (by simp [Value.oneCell']) (by unfold maxLen; omega) (by omega) bW3.size ?_
              intro v91 V91 o91 gV91
              have bV91 : Below wo.heap.size wo V91 := bW3.grown gV91 bW3.size (fun k hk => owns_block o84' hk)
              (refine hK.out _ _ trivial ?_; clear hK K; (try simp only [List.getElem_toArray, List.getElem_cons_succ, List.getElem_cons_zero, Act.put, List.setIfInBounds_toArray, List.set_cons_zero, List.set_cons_succ]))
              refine plan_one rfl (by rfl) (fun K hK => ?_)
              refine wp_append_row _ _ 22 rfl wo.heap.size 55 i0 _ 2 32 Tryz.underlying22 hi hz0 hz1 hz2 rfl (by decide) v91 (0 + q + 1) ([] ++ (fileCells outs).take (q * 2) ++ [.string m, .string (nearT who)]) rfl o91 _ (outs.length - q) ((fileCells outs).drop (q * 2)) rfl (by first | exact HRD.out _ bV91 | exact HRD.out _ _ 0 0 HQZ.out.symm (by omega) | exact HRD.out _ _ (outs.length - q) 0 rfl (by omega) | exact HRD.out _ _ 0 (rc - q) HQZ.out.symm (by omega) | exact HRD.out _ _ (outs.length - q) (rc - q) rfl (by omega)) (fun u hu => fileCells_one outs u (List.mem_of_mem_drop hu)) (by unfold maxLen; omega) (by omega) bV91.size ?_
              intro v95 V95 o95 gV95
              have bV95 : Below wo.heap.size wo V95 := bV91.grown gV95 bV91.size (fun k hk => owns_block o91 hk)
              (refine hK.out _ _ trivial ?_; clear hK K; (try simp only [List.getElem_toArray, List.getElem_cons_succ, List.getElem_cons_zero, Act.put, List.setIfInBounds_toArray, List.set_cons_zero, List.set_cons_succ]))
              (refine plan_one rfl (by rfl) (fun K hK => ?_); go_simp)
              (refine hK.out _ _ trivial ?_; clear hK K; (try simp only [List.getElem_toArray, List.getElem_cons_succ, List.getElem_cons_zero, Act.put, List.setIfInBounds_toArray, List.set_cons_zero, List.set_cons_succ]))
              refine plan_done ?_
              refine NoPanic.normal ?_
              go_wp2
              go_meet
              case rel => exact ⟨by rw [withM, HOU.out]; exact own_with hq o95, bV95⟩
            · skip
              (refine plan_one rfl (by rfl) (fun K hK => ?_); go_simp)
              have c90 : IsRow (W1.alloc (.cells #[.string m, .string (nearT who)] 55)) 2 (.slice (some ⟨W1.heap.size, 0, none⟩) 1 1) 1 [.string m, .string (nearT who)] := row_new W1 m (nearT who)
              have l90 : W1.heap.size < (W1.alloc (.cells #[.string m, .string (nearT who)] 55)).heap.size := by simp
              have o80' := o80.below (qalloc _ (.cells #[.string m, .string (nearT who)] 55))
              have bW2 : Below wo.heap.size wo (W1.alloc (.cells #[.string m, .string (nearT who)] 55)) := qtrans bW1 (qalloc _ _)
              (refine hK.out _ _ trivial ?_; clear hK K; (try simp only [List.getElem_toArray, List.getElem_cons_succ, List.getElem_cons_zero, Act.put, List.setIfInBounds_toArray, List.set_cons_zero, List.set_cons_succ]))
              generalize (W1.alloc (.cells #[.string m, .string (nearT who)] 55)) = W2 at *
              generalize W1.heap.size = z90 at *
              refine plan_one rfl (by rfl) (fun K hK => ?_)
              refine wp_append_row _ _ 22 rfl wo.heap.size 55 i0 _ 2 32 Tryz.underlying22 hi hz0 hz1 hz2 rfl (by decide) (.slice (some ⟨z80, 0, none⟩) 0 0) (0) ([]) rfl (show World.ownsRow _ wo.heap.size 55 2 _ 0 [] from o80') _ q ((fileCells outs).take (q * 2)) rfl (HRT.out _ bW2) (fun u hu => fileCells_one outs u (List.mem_of_mem_take hu)) (by unfold maxLen; omega) (by omega) bW2.size ?_
              intro v84 W3 o84 gW3
              have bW3 : Below wo.heap.size wo W3 := bW2.grown gW3 bW2.size (fun k hk => owns_block (show World.ownsRow _ wo.heap.size 55 2 _ 0 [] from o80') hk)
              have c90' := isRow_grown c90 gW3 (fun e => by cases e; dsimp only at *; omega)
              (refine hK.out _ _ trivial ?_; clear hK K; (try simp only [List.getElem_toArray, List.getElem_cons_succ, List.getElem_cons_zero, Act.put, List.setIfInBounds_toArray, List.set_cons_zero, List.set_cons_succ]))
              refine plan_one rfl (by rfl) (fun K hK => ?_)
              refine wp_append_row _ _ 22 rfl wo.heap.size 55 i0 _ 2 32 Tryz.underlying22 hi hz0 hz1 hz2 rfl (by decide) v84 (0 + q) ([] ++ (fileCells outs).take (q * 2)) rfl o84 _ 1 ([.string m, .string (nearT who)]) rfl c90' (by simp [Value.oneCell']) (by unfold maxLen; omega) (by omega) bW3.size ?_
              intro v91 V91 o91 gV91
              have bV91 : Below wo.heap.size wo V91 := bW3.grown gV91 bW3.size (fun k hk => owns_block o84 hk)
              (refine hK.out _ _ trivial ?_; clear hK K; (try simp only [List.getElem_toArray, List.getElem_cons_succ, List.getElem_cons_zero, Act.put, List.setIfInBounds_toArray, List.set_cons_zero, List.set_cons_succ]))
              refine plan_one rfl (by rfl) (fun K hK => ?_)
              refine wp_append_row _ _ 22 rfl wo.heap.size 55 i0 _ 2 32 Tryz.underlying22 hi hz0 hz1 hz2 rfl (by decide) v91 (0 + q + 1) ([] ++ (fileCells outs).take (q * 2) ++ [.string m, .string (nearT who)]) rfl o91 _ (outs.length - q) ((fileCells outs).drop (q * 2)) rfl (by first | exact HRD.out _ bV91 | exact HRD.out _ _ 0 0 HQZ.out.symm (by omega) | exact HRD.out _ _ (outs.length - q) 0 rfl (by omega) | exact HRD.out _ _ 0 (rc - q) HQZ.out.symm (by omega) | exact HRD.out _ _ (outs.length - q) (rc - q) rfl (by omega)) (fun u hu => fileCells_one outs u (List.mem_of_mem_drop hu)) (by unfold maxLen; omega) (by omega) bV91.size ?_
              intro v95 V95 o95 gV95
              have bV95 : Below wo.heap.size wo V95 := bV91.grown gV95 bV91.size (fun k hk => owns_block o91 hk)
              (refine hK.out _ _ trivial ?_; clear hK K; (try simp only [List.getElem_toArray, List.getElem_cons_succ, List.getElem_cons_zero, Act.put, List.setIfInBounds_toArray, List.set_cons_zero, List.set_cons_succ]))
              (refine plan_one rfl (by rfl) (fun K hK => ?_); go_simp)
              (refine hK.out _ _ trivial ?_; clear hK K; (try simp only [List.getElem_toArray, List.getElem_cons_succ, List.getElem_cons_zero, Act.put, List.setIfInBounds_toArray, List.set_cons_zero, List.set_cons_succ]))
              refine plan_done ?_
              refine NoPanic.normal ?_
              go_wp2
              go_meet
              case rel => exact ⟨by rw [withM, HOU.out]; exact own_with hq o95, bV95⟩
          · skip
            (refine plan_one rfl (by rfl) (fun K hK => ?_); go_simp)
            have c90 : IsRow (W0.alloc (.cells #[.string m, .string (nearT who)] 55)) 2 (.slice (some ⟨W0.heap.size, 0, none⟩) 1 1) 1 [.string m, .string (nearT who)] := row_new W0 m (nearT who)
            have l90 : W0.heap.size < (W0.alloc (.cells #[.string m, .string (nearT who)] 55)).heap.size := by simp
            have bW1 : Below wo.heap.size wo (W0.alloc (.cells #[.string m, .string (nearT who)] 55)) := qtrans h0 (qalloc _ _)
            (refine hK.out _ _ trivial ?_; clear hK K; (try simp only [List.getElem_toArray, List.getElem_cons_succ, List.getElem_cons_zero, Act.put, List.setIfInBounds_toArray, List.set_cons_zero, List.set_cons_succ]))
            generalize (W0.alloc (.cells #[.string m, .string (nearT who)] 55)) = W1 at *
            generalize W0.heap.size = z90 at *
            (refine plan_one rfl (by rfl) (fun K hK => ?_); go_simp)
            have o80 : OwnF (W1.alloc (.cells #[] 55)) wo.heap.size (.slice (some ⟨W1.heap.size, 0, none⟩) 0 0) [] := OwnF.new W1 wo.heap.size bW1.size
            have l80 : W1.heap.size < (W1.alloc (.cells #[] 55)).heap.size := by simp
            have c90' := IsRow.below c90 (qalloc _ (.cells #[] 55))
            have bW2 : Below wo.heap.size wo (W1.alloc (.cells #[] 55)) := qtrans bW1 (qalloc _ _)
            (refine hK.out _ _ trivial ?_; clear hK K; (try simp only [List.getElem_toArray, List.getElem_cons_succ, List.getElem_cons_zero, Act.put, List.setIfInBounds_toArray, List.set_cons_zero, List.set_cons_succ]))
            generalize (W1.alloc (.cells #[] 55)) = W2 at *
            generalize W1.heap.size = z80 at *
            refine plan_one rfl (by rfl) (fun K hK => ?_)
            refine wp_append_row _ _ 22 rfl wo.heap.size 55 i0 _ 2 32 Tryz.underlying22 hi hz0 hz1 hz2 rfl (by decide) (.slice (some ⟨z80, 0, none⟩) 0 0) (0) ([]) rfl (show World.ownsRow _ wo.heap.size 55 2 _ 0 [] from o80) _ q ((fileCells outs).take (q * 2)) rfl (HRT.out _ bW2) (fun u hu => fileCells_one outs u (List.mem_of_mem_take hu)) (by unfold maxLen; omega) (by omega) bW2.size ?_
            intro v84 W3 o84 gW3
            have bW3 : Below wo.heap.size wo W3 := bW2.grown gW3 bW2.size (fun k hk => owns_block (show World.ownsRow _ wo.heap.size 55 2 _ 0 [] from o80) hk)
            have c90'' := isRow_grown c90' gW3 (fun e => by cases e; dsimp only at *; omega)
            (refine hK.out _ _ trivial ?_; clear hK K; (try simp only [List.getElem_toArray, List.getElem_cons_succ, List.getElem_cons_zero, Act.put, List.setIfInBounds_toArray, List.set_cons_zero, List.set_cons_succ]))
            refine plan_one rfl (by rfl) (fun K hK => ?_)
            refine wp_append_row _ _ 22 rfl wo.heap.size 55 i0 _ 2 32 Tryz.underlying22 hi hz0 hz1 hz2 rfl (by decide) v84 (0 + q) ([] ++ (fileCells outs).take (q * 2)) rfl o84 _ 1 ([.string m, .string (nearT who)]) rfl c90'' (by simp [Value.oneCell']) (by unfold maxLen; omega) (by omega) bW3.size ?_
            intro v91 V91 o91 gV91
            have bV91 : Below wo.heap.size wo V91 := bW3.grown gV91 bW3.size (fun k hk => owns_block o84 hk)
            (refine hK.out _ _ trivial ?_; clear hK K; (try simp only [List.getElem_toArray, List.getElem_cons_succ, List.getElem_cons_zero, Act.put, List.setIfInBounds_toArray, List.set_cons_zero, List.set_cons_succ]))
            refine plan_one rfl (by rfl) (fun K hK => ?_)
            refine wp_append_row _ _ 22 rfl wo.heap.size 55 i0 _ 2 32 Tryz.underlying22 hi hz0 hz1 hz2 rfl (by decide) v91 (0 + q + 1) ([] ++ (fileCells outs).take (q * 2) ++ [.string m, .string (nearT who)]) rfl o91 _ (outs.length - q) ((fileCells outs).drop (q * 2)) rfl (by first | exact HRD.out _ bV91 | exact HRD.out _ _ 0 0 HQZ.out.symm (by omega) | exact HRD.out _ _ (outs.length - q) 0 rfl (by omega) | exact HRD.out _ _ 0 (rc - q) HQZ.out.symm (by omega) | exact HRD.out _ _ (outs.length - q) (rc - q) rfl (by omega)) (fun u hu => fileCells_one outs u (List.mem_of_mem_drop hu)) (by unfold maxLen; omega) (by omega) bV91.size ?_
            intro v95 V95 o95 gV95
            have bV95 : Below wo.heap.size wo V95 := bV91.grown gV95 bV91.size (fun k hk => owns_block o91 hk)
            (refine hK.out _ _ trivial ?_; clear hK K; (try simp only [List.getElem_toArray, List.getElem_cons_succ, List.getElem_cons_zero, Act.put, List.setIfInBounds_toArray, List.set_cons_zero, List.set_cons_succ]))
            (refine plan_one rfl (by rfl) (fun K hK => ?_); go_simp)
            (refine hK.out _ _ trivial ?_; clear hK K; (try simp only [List.getElem_toArray, List.getElem_cons_succ, List.getElem_cons_zero, Act.put, List.setIfInBounds_toArray, List.set_cons_zero, List.set_cons_succ]))
            refine plan_done ?_
            refine NoPanic.normal ?_
            go_wp2
            go_meet
            case rel => exact ⟨by rw [withM, HOU.out]; exact own_with hq o95, bV95⟩
      case rest =>
      obtain ⟨hwv, hbw⟩ := hcut
      clear hcase HRT
      have hmz : m.size ≤ 130 := by rw [← HMN.out, mineOf]; have := fileAt_size p (kL p); omega
      have hnz := nearT_size who
      have hsm : SmallF (withM m (nearT who) fs q) := small_with hall h10 (by omega) (by omega)
      have HLAW : Hid (∀ r i gs, oparse (nearT who) = ([r], i, 0) → groupsOf (withM m (nearT who) fs q) p = (gs, 0) → gs = r.groups) := by rw [← HMN.out]; exact fun r i gs h1 h2 => near_law h1 h2
      have HGR := Lib.hid (Groups_any _ _ p _ hwv.reads hsm (by omega))
      have HPA := Lib.hid (fun W => Parse_any (nearT who) (by omega) W)
      obtain ⟨wa, wcap, rfl⟩ := hwv.val
      clear hwv hsm
      generalize withM m (nearT who) fs q = wf at *
      generalize groupsOf wf p = x at *
      obtain ⟨xg, xe⟩ := x
      generalize oparse (nearT who) = y at *
      obtain ⟨yl, yp, ye⟩ := y
      go_wp2_with (fail)
      refine HGR.out.mono ?_
      rintro e w5 ⟨gv, rfl, hgv, hb5⟩
      simp only [] at hgv
      obtain ⟨ga, gc, rfl, -, -⟩ := groups_val hgv
      have HGV := Lib.hid hgv
      clear hgv HGR
      go_wp2_with (fail)
      rw [HNT.out]
      refine (HPA.out _).mono ?_
      rintro e w6 ⟨rv, rfl, hrv, hb6⟩
      simp only [] at hrv
      obtain ⟨va, vc, rfl, hvc1, hvc2⟩ := rules_val hrv
      have HRV := Lib.hid hrv
      have HG6 := Lib.hid (HGV.out.below hb6)
      have hb6w : Below w.heap.size w w6 := qtrans hb1 (qtrans hbq (qtrans hbw (qtrans hb5 hb6)))
      clear hrv HPA HGV hb5 hb6 hbw
      by_cases hc : xe = 0
      rotate_left
      · have hcb : (xe != 0) = true := by simp; omega
        go_wp2_with (go_at_call 15; refine (awake_any _).mono ?_; rintro e w7 ⟨rfl, hb7⟩)
        go_ret
        exact ⟨rfl, qtrans hb6w hb7⟩
      have hcxeb : (xe != 0) = false := by simp; omega
      have hdxe := hc
      clear hc
      by_cases hc : ye = 0
      rotate_left
      · have hcb : (ye != 0) = true := by simp; omega
        go_wp2_with (go_at_call 15; refine (awake_any _).mono ?_; rintro e w7 ⟨rfl, hb7⟩)
        go_ret
        exact ⟨rfl, qtrans hb6w hb7⟩
      have hcyeb : (ye != 0) = false := by simp; omega
      have hdye := hc
      clear hc
      by_cases hc : yl.length = 1
      rotate_left
      · have hcb : ((yl.length : Int) != 1) = true := by simp; omega
        go_wp2_with (go_at_call 15; refine (awake_any _).mono ?_; rintro e w7 ⟨rfl, hb7⟩)
        go_ret
        exact ⟨rfl, qtrans hb6w hb7⟩
      have hcylb : ((yl.length : Int) != 1) = false := by simp; omega
      have hdyl := hc
      clear hc
      obtain ⟨r, rfl⟩ : ∃ r, yl = [r] := by
        match yl, hdyl with
        | [r], _ => exact ⟨r, rfl⟩
      have hgr : xg = r.groups := HLAW.out r yp xg (by rw [hdye]) (by rw [hdxe])
      subst hgr
      obtain ⟨b2, o2, ag, cg, rfl, hbb2, hr0, hr1, hr2, hr3, HRG⟩ := rules_elem HRV.out (i := 0) rfl
      have HSG := Lib.hid (rSameGroups_eq _ _ r.groups w6 HG6.out HRG.out)
      clear HLAW HRV HG6
      go_wp2_with (fail)
      refine HSG.out.mono ?_
      rintro e w7 ⟨rfl, n7, rfl⟩
      have hb7w := below_drewN hb6w n7
      clear HSG hb6w
      generalize w6.drewN n7 = W at *
      go_wp2_with (go_at_call 15; refine (awake_any _).mono ?_; rintro e w8 ⟨rfl, hb8⟩)
      go_ret
      exact ⟨rfl, qtrans hb7w hb8⟩
end Go.Proofs.YtidkpnabdfiilaaGreatDoor
