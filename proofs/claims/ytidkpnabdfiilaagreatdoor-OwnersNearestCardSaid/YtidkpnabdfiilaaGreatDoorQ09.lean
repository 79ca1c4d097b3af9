/- codec.digits: the iterator over the digits of a number. codec.writeInt, PutInt, PutText. codec.PutInt, codec.PutText. object.writer's methods. -/
import Derived.Test.YtidkpnabdfiilaaGreatDoorQ03
import Derived.Test.YtidkpnabdfiilaaGreatDoorQ06
import Derived.Test.YtidkpnabdfiilaaGreatDoorShA
import Derived.Test.YtidkpnabdfiilaaGreatDoorQ08
import Derived.Deep.DeepCutAuto
import Derived.Outline
namespace Go.Proofs.YtidkpnabdfiilaaGreatDoor
open Go.RowKit Go.Shelf
attribute [local go_sem] Oper.semAt_some

/-- The digits of a number, the lowest first; f bounds the steps. -/
def digs : Nat → Nat → List UInt8
  | 0, n => [UInt8.ofNat n]
  | f + 1, n => if n < 128 then [UInt8.ofNat n] else UInt8.ofNat (n % 128 + 128) :: digs f (n / 128)
def intB (n : Nat) : List UInt8 := digs 8 n
def digArgs (f n : Nat) : List (Array Value) := (digs f n).map fun c => #[.int .u8 (c.toNat : Int)]
theorem digs_len : ∀ f n, 1 ≤ (digs f n).length ∧ (digs f n).length ≤ f + 1
  | 0, n => by simp [digs]
  | f + 1, n => by
    rw [digs]
    split
    · simp
    · have := digs_len f (n / 128); simp; omega
def cellNum (w : World) (a : Addr) : Nat := match w.cell? a with | some (.int _ n) => n.toNat | _ => 0
theorem cellNum_eq {w : World} {a : Addr} {k : IntKind} {n : Int} (h : w.cell? a = some (.int k n)) : cellNum w a = n.toNat := by simp [cellNum, h]
set_option maxHeartbeats 1000000 in
theorem digits1_iter (n : Nat) (hn : n < 128 ^ 9) (w : World) (Bn : Nat) (c1 : w.cell? ⟨Bn, 0, none⟩ = some (.int .i64 n)) (f1 : w.frozen? ⟨Bn, 0, none⟩ = false) (hB : Bn < w.heap.size) :
    IterK Fence.wide 4 Tryz.prog 184 #[.pointer (some ⟨Bn, 0, none⟩)] (digArgs 8 n) (fun A B => B.heap[Bn]? = A.heap[Bn]?) (fun A B => ∃ v, B = A.setCell ⟨Bn, 0, none⟩ v) w := by
  intro l J Jx W hW hJ hJx hY h0
  have d1 : W.cell? ⟨Bn, 0, none⟩ = some (.int .i64 n) := (hW.cell (p := ⟨Bn, 0, none⟩) hB).trans c1
  have g1 : W.frozen? ⟨Bn, 0, none⟩ = false := (hW.frozen (p := ⟨Bn, 0, none⟩) hB).trans f1
  clear c1 f1 hW
  have HY := Lib.hid hY
  have HJ := Lib.hid hJ
  have HJx := Lib.hid hJx
  clear hY hJ hJx
  show CallsIn Fence.wide 4 Tryz.prog 184 #[.func (.yield l) #[] #[], .pointer (some ⟨Bn, 0, none⟩)] W _
  refine callsIn_of_wp Tryz.func184 rfl trivial ?_ rfl
  simp only [Tryz.ntmps184, List.size_toArray, List.length_cons, List.length_nil, Nat.reduceAdd, Nat.reduceSub, Array.replicate_succ, Array.replicate_zero, List.push_toArray, List.append_toArray, List.nil_append, List.cons_append]
  gi_wp2
  gi_loopw [] (fun wr => ∃ (k f m : Nat), m < 128 ^ (f + 1) ∧ m ≤ n ∧ wr.cell? ⟨Bn, 0, none⟩ = some (.int .i64 m) ∧ wr.frozen? ⟨Bn, 0, none⟩ = false ∧ Hid ((digArgs 8 n).drop k = digArgs f m) ∧ J k wr)
    (fun wr => cellNum wr ⟨Bn, 0, none⟩)
  case atStart => exact ⟨0, 8, n, hn, Nat.le_refl _, d1, g1, rfl, h0⟩
  case round =>
    obtain ⟨k, f, m, hm, hmn, e1, q1, HD, hJk⟩ := hrel
    clear d1 g1 h0
    by_cases hlt : m < 128
    · have hm2 : ¬ (128 : Int) ≤ (m : Int) := by omega
      have HA : Hid (digArgs f m = [#[.int .u8 (m : Int)]]) := by
        show _ = _
        have e : ((UInt8.ofNat m).toNat : Int) = (m : Int) := by rw [UInt8.toNat_ofNat']; omega
        unfold digArgs
        cases f with
        | zero => rw [digs]; simp only [List.map_cons, List.map_nil, e]
        | succ f => rw [digs, if_pos hlt]; simp only [List.map_cons, List.map_nil, e]
      obtain ⟨hk, ha, hd⟩ := drop_cons (HD.out.trans HA.out)
      have hlen : k + 1 = (digArgs 8 n).length := by
        have := congrArg List.length hd
        rw [List.length_drop, List.length_nil] at this
        omega
      have HL := Lib.hid hlen
      clear hd hlen
      have hy := HY.out k hk wr hJk
      rw [ha] at hy
      obtain ⟨fn, tmps, assign, body, hy, hR⟩ := hy
      clear ha
      gi_wp2
      refine hR.mono ?_
      rintro e W3 (⟨rfl, hJ3, hk3⟩ | ⟨rfl, hJx3⟩)
      · clear hR hy
        gi_wp2
        go_end0
        exact ⟨⟨_, rfl⟩, .inl (by rw [← HL.out]; exact hJ3)⟩
      · clear hR hy
        gi_wp2
        go_end0
        exact ⟨⟨_, rfl⟩, .inr ⟨k + 1, by omega, hJx3⟩⟩
    · have hm2 : (128 : Int) ≤ (m : Int) := by omega
      obtain ⟨f, rfl⟩ : ∃ f', f = f' + 1 := by
        cases f with
        | zero => exact absurd hm (by simpa using hlt)
        | succ f => exact ⟨f, rfl⟩
      have hm3 : m / 128 < 128 ^ (f + 1) := by rw [Nat.pow_succ] at hm; exact Nat.div_lt_of_lt_mul (by rw [Nat.mul_comm]; exact hm)
      have HA : Hid (digArgs (f + 1) m = #[.int .u8 ((m : Int) % 128 + 128)] :: digArgs f (m / 128)) := by
        show _ = _
        have e : ((UInt8.ofNat (m % 128 + 128)).toNat : Int) = (m : Int) % 128 + 128 := by rw [UInt8.toNat_ofNat']; omega
        unfold digArgs
        rw [digs, if_neg hlt, List.map_cons, e]
      have hmi : ((m : Int) / 128) = ((m / 128 : Nat) : Int) := by omega
      have hless : m / 128 < m := by omega
      obtain ⟨hk, ha, hd⟩ := drop_cons (HD.out.trans HA.out)
      have HD2 := Lib.hid hd
      clear hd
      have hy := HY.out k hk wr hJk
      rw [ha] at hy
      obtain ⟨fn, tmps, assign, body, hy, hR⟩ := hy
      clear ha hm
      generalize hq : m / 128 = q at *
      have HQ := Lib.hid hq
      clear hq
      gi_wp2
      refine hR.mono ?_
      rintro e W3 (⟨rfl, hJ3, hk3⟩ | ⟨rfl, hJx3⟩)
      · have e1' : W3.cell? ⟨Bn, 0, none⟩ = some (.int .i64 m) := (World.cell?_of_block (a := ⟨Bn, 0, none⟩) hk3).trans e1
        have q1' : W3.frozen? ⟨Bn, 0, none⟩ = false := (World.frozen?_of_block (a := ⟨Bn, 0, none⟩) hk3).trans q1
        have hJ4 := Lib.hid (HJ.out (k + 1) W3 (W3.setCell ⟨Bn, 0, none⟩ (.int .i64 q)) hJ3 ⟨_, rfl⟩)
        clear hR hy
        gi_wp2
        go_roundw
        case rel =>
          refine ⟨k + 1, f, q, hm3, by omega, World.cell?_setCell_same' _ _ _ (by rw [e1']; rfl), ?_, HD2, hJ4.out⟩
          rw [World.frozen?_setCell]; exact q1'
        case measure =>
          rw [cellNum_eq e1, cellNum_eq (World.cell?_setCell_same' _ _ _ (by rw [e1']; rfl))]
          omega
      · gi_wp2
        refine bodyPost_ret (results_none rfl _ _ _) rfl ?_
        exact ⟨⟨_, rfl⟩, .inr ⟨k + 1, by omega, hJx3⟩⟩
end Go.Proofs.YtidkpnabdfiilaaGreatDoor

namespace Go.Proofs.YtidkpnabdfiilaaGreatDoor
open Go.RowKit Go.Shelf
attribute [local go_sem] Oper.semAt_some

theorem lt_of_cell {W : World} {b o : Nat} {v : Value} (h : W.cell? ⟨b, o, none⟩ = some v) : b < W.heap.size := by
  obtain ⟨o, ho, _⟩ := cells_of_cell h
  exact (Array.getElem?_eq_some_iff.1 ho).1
abbrev IsB (B b : Nat) (l : List UInt8) (w : World) : Prop := Lib.IsBuilderF 130 5 B b (Lib.byteCells l) w
theorem builderAt_grown {T e : TypeId} {B b : Nat} {p : Value} {bs : List Value} {A A' : World} {row : Option Nat} (h : Lib.BuilderAtF T e B b p bs A) (hg : A.grownBy A' row) (hr : ∀ r, row = some r → r ≠ b ∧ ∀ c fz, A.heap[r]? ≠ some (.cells c e fz)) : Lib.BuilderAtF T e B b p bs A' := by
  obtain ⟨hB, v, hb, hown, hne⟩ := h
  refine ⟨hB, v, (hg.block b (Array.getElem?_eq_some_iff.1 hb).1 (fun e => (hr b e.symm).1 rfl)).trans hb, hown.kept hg ?_, hne⟩
  cases hv : v.ownBlock with
  | none => exact .inl rfl
  | some g =>
    right
    intro e'
    obtain ⟨c, fz, hc⟩ := Lib.ownsRowF_kind hown g hv
    exact (hr g e'.symm).2 c fz hc
theorem builder_grown {T e : TypeId} {B b : Nat} {bs : List Value} {A A' : World} {row : Option Nat} (h : Lib.IsBuilderF T e B b bs A) (hg : A.grownBy A' row) (hr : ∀ r, row = some r → r ≠ b ∧ ∀ c fz, A.heap[r]? ≠ some (.cells c e fz)) : Lib.IsBuilderF T e B b bs A' :=
  h.imp (fun h => builderAt_grown h hg hr) (fun h => builderAt_grown h hg hr)
theorem builder_lt {T e : TypeId} {B b : Nat} {bs : List Value} {A : World} (h : Lib.IsBuilderF T e B b bs A) : b < A.heap.size ∧ ∃ c, A.heap[b]? = some (.cells c T (0, 0)) := by
  rcases h with ⟨_, v, hb, _⟩ | ⟨_, v, hb, _⟩ <;> exact ⟨(Array.getElem?_eq_some_iff.1 hb).1, _, hb⟩
theorem builder_own {T e : TypeId} {B b : Nat} {bs : List Value} {A A' : World} {row : Option Nat} (h : Lib.IsBuilderF T e B b bs A) (hg : A.grownBy A' row) (hr : ∀ r, row = some r → ∃ o : Obj, A.heap[r]? = some o ∧ o.isCells = false) : Lib.IsBuilderF T e B b bs A' :=
  builder_grown h hg fun r e => by
    obtain ⟨o, ho, hc⟩ := hr r e
    refine ⟨fun e' => ?_, fun c fz hh => ?_⟩
    · obtain ⟨_, c, hb⟩ := builder_lt h
      rw [e', hb] at ho; cases ho; cases hc
    · rw [ho] at hh; cases hh; cases hc
theorem grownBy_set (w : World) (p : Addr) (v : Value) : w.grownBy (w.setCell p v) (some p.block) := ⟨rfl, rfl, rfl, by simp [World.setCell], fun k _ hk => Below.heap_setCell _ _ _ _ (fun e => hk (by rw [e]))⟩
theorem builder_set {T e : TypeId} {B b Bn : Nat} {bs : List Value} {A : World} (h : Lib.IsBuilderF T e B b bs A) {t : TypeId} {xs : Array Value} (hx : CBox A Bn t xs) (ht : t ≠ e) (hne : Bn ≠ b) (o : Nat) (v : Value) : Lib.IsBuilderF T e B b bs (A.setCell ⟨Bn, o, none⟩ v) :=
  builder_grown h (grownBy_set A _ v) fun r e => by
    obtain rfl : Bn = r := by injection e
    refine ⟨hne, fun c fz hh => ?_⟩
    have hx' : A.heap[Bn]? = _ := hx
    rw [hx'] at hh; cases hh; exact ht rfl
theorem digits_any (n : Int) (w : World) : Calls Tryz.prog 164 #[.int .i64 n] w fun e w' => e = .returned (.func (.func 184) #[] #[.pointer (some ⟨w.heap.size, 0, none⟩)]) ∧ w.alloc (.cells #[.int .i64 n] 3) = w' := by
  go_enter Tryz.func164, Tryz.ntmps164
  go_wp2
  go_ret
  exact ⟨rfl, rfl⟩
theorem digArgs_get {f n k : Nat} (hk : k < (digArgs f n).length) : ∃ c, (digs f n)[k]? = some c ∧ (digArgs f n)[k] = #[.int .u8 (c.toNat : Int)] := by
  have hk' : k < (digs f n).length := by simpa [digArgs] using hk
  have h : (digArgs f n)[k]? = some #[.int .u8 ((digs f n)[k].toNat : Int)] := by unfold digArgs; rw [List.getElem?_map, List.getElem?_eq_getElem hk']; rfl
  exact ⟨(digs f n)[k], List.getElem?_eq_getElem hk', (List.getElem?_eq_some_iff.1 h).2⟩
theorem byteCells_snoc (l : List UInt8) (c : UInt8) : Lib.byteCells (l ++ [c]) = Lib.byteCells l ++ [.int .u8 (c.toNat : Int)] := by simp [Lib.byteCells]
set_option maxHeartbeats 1000000 in
theorem writeInt_any (n : Nat) (hn : n < 128 ^ 9) (B b : Nat) (l : List UInt8) (w : World) (h : IsB B b l w) (hl : l.length ≤ 1000000) (hBw : B ≤ w.heap.size) :
    Calls Tryz.prog 140 #[.pointer (some ⟨b, 0, none⟩), .int .i64 n] w fun e w' => e = .returned (.tuple #[]) ∧ IsB B b (l ++ intB n) w' ∧ Below B w w' := by
  have hbl := (builder_lt h).1
  refine (callsIn_wide (n := 5)).1 ?_
  refine callsIn_of_wp_marks Tryz.func140 rfl trivial ?_ rfl
  simp only [Tryz.ntmps140, List.size_toArray, List.length_cons, List.length_nil, Nat.reduceAdd, Nat.reduceSub, Array.replicate_succ, Array.replicate_zero, List.push_toArray, List.append_toArray, List.nil_append, List.cons_append]
  gi_wp2_with (refine ⟨trivial, ?_⟩; gi_at_call 164; refine (callsIn_wide.2 (digits_any _ _)).mono ?_; rintro e w' ⟨rfl, rfl⟩)
  generalize hW : (w.alloc (.cells #[.pointer (some ⟨b, 0, none⟩)] 128)).alloc (.cells #[.int .i64 (n : Int)] 3) = W0
  have hsz : W0.heap.size = w.heap.size + 2 := by rw [← hW]; simp
  have k0 : CBox W0 w.heap.size 128 #[.pointer (some ⟨b, 0, none⟩)] := by rw [← hW]; exact (CBox.new _ _ _).alloc _
  have k1 : CBox W0 (w.heap.size + 1) 3 #[.int .i64 (n : Int)] := by rw [← hW]; have := CBox.new (w.alloc (.cells #[.pointer (some ⟨b, 0, none⟩)] 128)) 3 #[.int .i64 (n : Int)]; rwa [World.size_alloc] at this
  have hB0 : IsB B b l W0 := by rw [← hW]; exact (h.alloc _).alloc _
  have hbW : Below B w W0 := by rw [← hW]; exact (qtrans (qalloc _ _) (qalloc _ _)).mono hBw
  clear hW h
  have c1 := k1.cell (i := 0) rfl
  have f1 := k1.frozen 0
  refine wp_iterK rfl (by omega) (gf := 184) (lb := #[.pointer (some ⟨w.heap.size + 1, 0, none⟩)]) rfl trivial (enters_of Tryz.func184 (by kernel_rfl) rfl)
    (digits1_iter n hn W0 (w.heap.size + 1) c1 f1 (by omega)) (fun a b c h k => k.trans h) (fun W o o' _ _ _ => World.putObj_heap_other (by omega)) (qrefl _)
    (fun k hk => by obtain ⟨c, _, e⟩ := digArgs_get hk; rw [e]; rfl)
    (fun k W => (CBox W w.heap.size 128 #[.pointer (some ⟨b, 0, none⟩)] ∧ (∃ x, CBox W (w.heap.size + 1) 3 #[x]) ∧ Hid (IsB B b (l ++ (digs 8 n).take k) W)) ∧ Below B w W ∧ w.heap.size + 2 ≤ W.heap.size)
    (fun _ _ _ => False)
    ?own (fun c => ownFrom_pure _ _)
    ?ab ?ia (fun c k A B h _ => h.elim) ⟨⟨k0, ⟨_, k1⟩, Lib.hid (by simpa using hB0)⟩, hbW, by omega⟩
    (fun k a' _ => ∃ c, (digs 8 n)[k]? = some c ∧ a' = { tmps := #[.pointer (some ⟨b, 0, none⟩), .int .i64 n, .pointer (some ⟨w.heap.size, 0, none⟩), undef, .int .u8 (c.toNat : Int), .int .i64 n, .func (.func 184) #[] #[.pointer (some ⟨w.heap.size + 1, 0, none⟩)], .int .u8 (c.toNat : Int), undef, undef, undef], defers := [] })
    (fun _ _ _ _ _ _ hs _ _ => hs) ?assign ?body ?done ?stop
  case own =>
    rintro k A A' row ⟨⟨h0, ⟨x, h1⟩, h2⟩, h3, h4⟩ hg hr
    have keep : ∀ {Bk : Nat} {t : TypeId} {xs : Array Value}, CBox A Bk t xs → CBox A' Bk t xs := fun hx => (hg.block _ hx.lt (fun e => by
      obtain ⟨_, o, ho, hc⟩ := hr _ e.symm
      have hx' : A.heap[_]? = _ := hx
      rw [hx'] at ho; cases ho; cases hc)).trans hx
    exact ⟨⟨keep h0, ⟨x, keep h1⟩, builder_own h2.out hg (fun r e => (hr r e).2)⟩, h3.grown hg (by have := h3.size; omega) (fun r e => by have := (hr r e).1; omega), Nat.le_trans h4 hg.size⟩
  case ab =>
    rintro A A' ⟨v, rfl⟩ k o hk ho _
    rw [Below.heap_setCell _ _ _ _ (by show k ≠ w.heap.size + 1; omega)]; exact ho
  case ia =>
    rintro k A A' ⟨⟨h0, ⟨x, h1⟩, h2⟩, h3, h4⟩ ⟨v, rfl⟩
    have m : Mod [w.heap.size + 1] A (A.setCell ⟨w.heap.size + 1, 0, none⟩ v) := (Mod.refl _ _).setCell (by simp) _
    exact ⟨⟨h0.mod m (by simp), ⟨v, h1.set 0 v⟩, builder_set h2.out h1 (by decide) (by omega) 0 v⟩, h3.setCell (by show B ≤ w.heap.size + 1; omega) _, by simpa [World.setCell] using h4⟩
  case assign =>
    intro l' k hk W K hi hK
    obtain ⟨c, hc, e⟩ := digArgs_get hk
    rw [e]
    gi_wp2
    exact hK _ _ (KeepsFrom.refl _ _) rfl hi ⟨c, hc, rfl⟩
  case body =>
    rintro l' k hk a' W ⟨⟨h0, ⟨x, h1⟩, HB⟩, h3, h4⟩ ⟨c, hc, rfl⟩
    have q0 := h0.cell (i := 0) rfl
    have hkl : k < (digs 8 n).length := (List.getElem?_eq_some_iff.1 hc).1
    have hdl := (digs_len 8 n).2
    have hlen : (Lib.byteCells (l ++ (digs 8 n).take k)).length + 1 ≤ 140737488355328 := by
      simp only [Lib.byteCells, List.length_map, List.length_append, List.length_take]; omega
    have HC := Lib.hid hc
    have hBW : B ≤ W.heap.size := by have := h3.size; omega
    clear hc
    gi_wp2_with (refine ⟨trivial, ?_⟩; gi_at_call 165; refine (CallsIn.inRound l' (callsIn_wide.2 (Tryz.Builder_WriteByte_k B b _ _ W HB.out hlen hBW))).mono ?_; rintro e w' ⟨rfl, hb', hbe, hot⟩)
    have hsz' := hbe.size
    have keep : ∀ {Bk : Nat} {t : TypeId} {xs : Array Value}, Bk ≠ b → t ≠ 5 → CBox W Bk t xs → CBox w' Bk t xs := fun hne ht hx => hot _ _ hx (fun e => hne (by injection e)) (fun c fz e => ht (by cases e; rfl))
    refine ⟨⟨hbe.size, fun k' o _ hk' ho => hot k' o hk' (fun e => ?_) (fun c' fz e => ?_)⟩, ?_, ⟨keep (by omega) (by decide) h0, ⟨x, keep (by omega) (by decide) h1⟩, ?_⟩, h3.trans (hbe), by omega⟩
    · obtain ⟨_, cb, hcb⟩ := builder_lt HB.out
      have e' : k' = b := by injection e
      rw [e', hcb] at hk'; cases hk'; cases ho
    · rw [e] at ho; cases ho
    · have h1' : W.heap[w.heap.size + 1]? = _ := h1
      exact (hot _ _ h1' (fun e => by have : w.heap.size + 1 = b := by injection e
                                      omega) (fun c fz e => by cases e)).trans h1'.symm
    · show IsB _ _ _ _
      rw [take_at HC.out, ← List.append_assoc]
      unfold IsB
      rw [byteCells_snoc]
      exact .inr hb'
  case done =>
    rintro D W hD ⟨⟨h0, _, HB⟩, h3, h4⟩ hK
    have hlen : (digArgs 8 n).length = (digs 8 n).length := by simp [digArgs]
    rw [hlen, List.take_of_length_le (Nat.le_refl _)] at HB
    gi_wp2
    refine ⟨by simp, .inl ⟨_, _, rfl, run_takeDeferred hK, ?_⟩⟩
    refine ⟨.tuple #[], results_none rfl _ _ _, rfl, ?_, h3.trans (belowK_b (w := w) hBw _ D _ _ (by omega) hK rfl rfl)⟩
    exact builder_own HB.out (grownBy_putObj' _ D (.deferred none)) (fun r e => by cases e; exact ⟨_, hK, rfl⟩)
  case stop =>
    rintro D c k W hD hk h
    exact h.elim
end Go.Proofs.YtidkpnabdfiilaaGreatDoor

namespace Go.Proofs.YtidkpnabdfiilaaGreatDoor
open Go.RowKit

theorem builder_new (w : World) : IsB w.heap.size w.heap.size [] (w.alloc (.cells #[.pointer none, .slice none 0 0] 130)) :=
  Lib.IsBuilderF.of (.inl ⟨Nat.le_refl _, .slice none 0 0, World.alloc_heap_new _ _, World.ownsRow_nil _ _ _ _, by simp [Value.ownBlock]⟩)
theorem inRange_any (n : Nat) (hn : n ≤ 1099511627776) (w : World) : Calls Tryz.prog 139 #[.int .i64 n] w fun e w' => e = .returned (.bool true) ∧ w = w' := by
  go_enter Tryz.func139, Tryz.ntmps139
  go_wp2
  go_ret
  exact ⟨ret_bool (by simp; omega), rfl⟩
theorem PutInt_any (n : Nat) (hn : n ≤ 1099511627776) (w : World) : Calls Tryz.prog 102 #[.int .i64 n] w fun e w' => e = .returned (.tuple #[.string ⟨(intB n).toArray⟩, .int .i64 0]) ∧ Below w.heap.size w w' := by
  have HB := Lib.hid (builder_new w)
  go_enter Tryz.func102, Tryz.ntmps102
  go_wp2_with (go_at_call 139; refine (inRange_any n hn _).mono ?_; rintro e w' ⟨rfl, rfl⟩)
  refine (writeInt_any n (by omega) w.heap.size w.heap.size [] _ HB.out (by simp) (by simp)).mono ?_
  rintro e w1 ⟨rfl, h1, hb1⟩
  have H1 := Lib.hid h1
  have hz : w.heap.size ≤ w1.heap.size := by have := hb1.size; simp at this; omega
  clear h1
  go_wp2_with (go_at_call 78; refine (Tryz.Builder_String_any_k _ _ _ _ H1.out hz).mono ?_; rintro e w2 ⟨rfl, h2, hb2, -⟩)
  go_ret2
  refine ⟨by simp, ?_⟩
  exact ((qalloc w (.cells #[.pointer none, .slice none 0 0] 130)).trans hb1).trans hb2
theorem strCells_bytes (s : ByteArray) : Lib.strCells s = Lib.byteCells s.data.toList := by
  unfold Lib.strCells Lib.byteCells; rfl
theorem PutText_any (s : ByteArray) (hs : s.size ≤ 65536) (w : World) : Calls Tryz.prog 104 #[.string s] w fun e w' => e = .returned (.tuple #[.string ⟨(intB s.size ++ s.data.toList).toArray⟩, .int .i64 0]) ∧ Below w.heap.size w w' := by
  have HB := Lib.hid (builder_new w)
  go_enter Tryz.func104, Tryz.ntmps104
  go_wp2_with (fail)
  refine (writeInt_any s.size (by omega) w.heap.size w.heap.size [] _ HB.out (by simp) (by simp)).mono ?_
  rintro e w1 ⟨rfl, h1, hb1⟩
  have H1 := Lib.hid h1
  have hz : w.heap.size ≤ w1.heap.size := by have := hb1.size; simp at this; omega
  have hdl := (digs_len 8 s.size).2
  have hlen : (Lib.byteCells ([] ++ intB s.size)).length + s.size ≤ 140737488355328 := by
    simp only [Lib.byteCells, List.length_map, List.nil_append, intB]; omega
  clear h1
  go_wp2_with (fail)
  refine (Tryz.Builder_WriteString_k _ _ _ s _ H1.out hlen hz).mono ?_
  rintro e w2 ⟨rfl, h2, hb2, -⟩
  have H2 : Hid (IsB w.heap.size w.heap.size (intB s.size ++ s.data.toList) w2) := by
    show IsB _ _ _ _
    have e : Lib.byteCells (intB s.size ++ s.data.toList) = Lib.byteCells ([] ++ intB s.size) ++ Lib.strCells s := by
      rw [strCells_bytes]; simp [Lib.byteCells]
    unfold IsB
    rw [e]
    exact .inr h2
  have hz2 : w.heap.size ≤ w2.heap.size := by have := hb2.size; omega
  clear h2
  go_wp2_with (go_at_call 78; refine (Tryz.Builder_String_any_k _ _ _ _ H2.out hz2).mono ?_; rintro e w3 ⟨rfl, h3, hb3, -⟩)
  go_ret2
  refine ⟨rfl, ?_⟩
  exact (((qalloc w (.cells #[.pointer none, .slice none 0 0] 130)).trans hb1).trans hb2).trans hb3
end Go.Proofs.YtidkpnabdfiilaaGreatDoor

namespace Go.Proofs.YtidkpnabdfiilaaGreatDoor
open Go.RowKit

theorem infoByte : (Tryz.prog.info? 5).map (fun i => (i.zero, i.size, i.bytes)) = some (some (.int .u8 0), 1, 1) := by kernel_rfl
/-- The writer in block R: its text so far; nothing was bad. -/
def WB (R : Nat) (l : List UInt8) (W : World) : Prop := ∃ v, CBox W R 198 #[v, .bool false] ∧ W.ownsRow (R + 1) 5 1 v l.length (Lib.byteCells l)
theorem WB.lt {R : Nat} {l : List UInt8} {W : World} (h : WB R l W) : R < W.heap.size := by obtain ⟨v, h1, _⟩ := h; exact h1.lt
theorem WB.below {R : Nat} {l : List UInt8} {W W' : World} (h : WB R l W) (m : Below W.heap.size W W') : WB R l W' := by
  obtain ⟨v, h1, h2⟩ := h; exact ⟨v, h1.below m, owns_below h2 m⟩
/-- The text is appended to; the writer takes the new slice. -/
theorem WB.push {R : Nat} {l m : List UInt8} {W w2 : World} {v v' : Value} (h1 : CBox W R 198 #[v, .bool false]) (h2 : W.ownsRow (R + 1) 5 1 v l.length (Lib.byteCells l))
    (ho : w2.ownsRow (R + 1) 5 1 v' (l.length + m.length) (Lib.byteCells l ++ Lib.byteCells m)) (hg : W.grownBy w2 v.ownBlock) :
    CBox w2 R 198 #[v, .bool false] ∧ WB R (l ++ m) (w2.setCell ⟨R, 0, none⟩ v') ∧ Below R W (w2.setCell ⟨R, 0, none⟩ v') := by
  have hne : ∀ k, v.ownBlock = some k → R + 1 ≤ k := fun k hk => owns_block h2 hk
  have b2 : CBox w2 R 198 #[v, .bool false] := (hg.block R h1.lt (fun e => by have := hne R e.symm; omega)).trans h1
  have ms : Mod [R] w2 (w2.setCell ⟨R, 0, none⟩ v') := (Mod.refl _ _).setCell (by simp) _
  refine ⟨b2, ⟨v', b2.set 0 v', ?_⟩, ?_⟩
  · rw [List.length_append, show Lib.byteCells (l ++ m) = Lib.byteCells l ++ Lib.byteCells m by simp [Lib.byteCells]]
    exact owns_mod ho ms (fun b hb hx => by have := owns_block ho hb; simp at hx; omega)
  · have hR := h1.lt
    exact ((Below.refl R W).grown hg (Nat.le_of_lt hR) (fun k hk => by have := hne k hk; omega)).setCell (Nat.le_refl _) _
set_option maxRecDepth 100000 in
set_option maxHeartbeats 1000000 in
theorem wnumber_any (n : Nat) (hn : n ≤ 1099511627776) (R : Nat) (l : List UInt8) (w : World) (h : WB R l w) (hl : l.length ≤ 1000000) :
    Calls Tryz.prog 157 #[.pointer (some ⟨R, 0, none⟩), .int .i64 n] w fun e w' => e = .returned (.tuple #[]) ∧ WB R (l ++ (intB n)) w' ∧ Below R w w' := by
  obtain ⟨i0, hi, hz0, hz1, hz2⟩ := info_parts infoByte
  have hRw := h.lt
  go_enter Tryz.func157, Tryz.ntmps157
  go_wp2_with (fail)
  refine (PutInt_any n hn w).mono ?_
  rintro e w1 ⟨rfl, hb1⟩
  obtain ⟨v, h1, h2⟩ := h.below hb1
  have hil : (intB n).length ≤ 9 := (digs_len 8 n).2
  generalize hbt : (intB n) = bt at *
  have HBT := Lib.hid hbt
  clear hbt
  have HI : Hid ((⟨bt.toArray⟩ : ByteArray).data.toList = bt) := rfl
  generalize (⟨bt.toArray⟩ : ByteArray) = t at *
  have hts : t.size ≤ 65009 := by rw [← sz, HI.out]; omega
  have h1s := h1.set 1 (.bool false)
  have h2s : (w1.setCell ⟨R, 1, none⟩ (.bool false)).ownsRow (R + 1) 5 1 v l.length (Lib.byteCells l) := owns_mod h2 ((Mod.refl [R] _).setCell (by simp) _) (fun b hb hx => by have := owns_block h2 hb; simp at hx; omega)
  have hbs : Below R w1 (w1.setCell ⟨R, 1, none⟩ (.bool false)) := (Below.refl R w1).setCell (p := ⟨R, 1, none⟩) (Nat.le_refl R) _
  have c1 := h1.cell (i := 1) rfl
  have f1 := h1.frozen 1
  have l1 := h1.lt
  obtain ⟨va, vc, rfl⟩ := owns_val h2
  go_upto_region 2 with (fail)
  generalize w1.setCell ⟨R, 1, none⟩ (.bool false) = W2 at *
  have H1 : Hid (CBox W2 R 198 #[.slice va l.length vc, .bool false]) := h1s
  have c0 := H1.out.cell (i := 0) rfl
  have l0 := H1.out.lt
  clear h1s c1 f1 h1 h2 l1
  go_wp2_with (at_builtin; refine Lib.wpList_append_own_string _ rfl _ _ 66 9 rfl (R + 1) 5 i0 Tryz.underlying66 Tryz.underlying9 hi hz0 hz1 hz2 _ _ _ rfl h2s t rfl (by unfold maxLen; omega) (by omega) (by omega) ?_)
  intro v' w3 hown3 hg3 _
  rw [strCells_bytes, HI.out] at hown3
  have hts2 : t.size = bt.length := by rw [← sz, HI.out]
  rw [hts2] at hown3
  obtain ⟨b2, hw, hbw⟩ := WB.push H1.out h2s hown3 hg3
  have HWB := Lib.hid hw
  obtain ⟨va', vc', rfl⟩ := owns_val hown3
  have d0 := b2.cell (i := 0) rfl
  have g0 := b2.frozen 0
  have m0 := b2.lt
  clear hown3 hg3 hw b2 h2s
  go_wp2
  go_end0
  exact ⟨rfl, by rw [HBT.out]; exact HWB.out, ((hb1.mono (Nat.le_of_lt hRw)).trans hbs).trans hbw⟩
set_option maxRecDepth 100000 in
set_option maxHeartbeats 1000000 in
theorem wstring_any (s : ByteArray) (hn : s.size ≤ 65000) (R : Nat) (l : List UInt8) (w : World) (h : WB R l w) (hl : l.length ≤ 1000000) :
    Calls Tryz.prog 158 #[.pointer (some ⟨R, 0, none⟩), .string s] w fun e w' => e = .returned (.tuple #[]) ∧ WB R (l ++ (intB s.size ++ s.data.toList)) w' ∧ Below R w w' := by
  obtain ⟨i0, hi, hz0, hz1, hz2⟩ := info_parts infoByte
  have hRw := h.lt
  go_enter Tryz.func158, Tryz.ntmps158
  go_wp2_with (fail)
  refine (PutText_any s (by omega) w).mono ?_
  rintro e w1 ⟨rfl, hb1⟩
  obtain ⟨v, h1, h2⟩ := h.below hb1
  have hil : (intB s.size ++ s.data.toList).length ≤ 65009 := by have := (digs_len 8 s.size).2; rw [List.length_append, sz]; unfold intB; omega
  generalize hbt : (intB s.size ++ s.data.toList) = bt at *
  have HBT := Lib.hid hbt
  clear hbt
  have HI : Hid ((⟨bt.toArray⟩ : ByteArray).data.toList = bt) := rfl
  generalize (⟨bt.toArray⟩ : ByteArray) = t at *
  have hts : t.size ≤ 65009 := by rw [← sz, HI.out]; omega
  have h1s := h1.set 1 (.bool false)
  have h2s : (w1.setCell ⟨R, 1, none⟩ (.bool false)).ownsRow (R + 1) 5 1 v l.length (Lib.byteCells l) := owns_mod h2 ((Mod.refl [R] _).setCell (by simp) _) (fun b hb hx => by have := owns_block h2 hb; simp at hx; omega)
  have hbs : Below R w1 (w1.setCell ⟨R, 1, none⟩ (.bool false)) := (Below.refl R w1).setCell (p := ⟨R, 1, none⟩) (Nat.le_refl R) _
  have c1 := h1.cell (i := 1) rfl
  have f1 := h1.frozen 1
  have l1 := h1.lt
  obtain ⟨va, vc, rfl⟩ := owns_val h2
  go_upto_region 2 with (fail)
  generalize w1.setCell ⟨R, 1, none⟩ (.bool false) = W2 at *
  have H1 : Hid (CBox W2 R 198 #[.slice va l.length vc, .bool false]) := h1s
  have c0 := H1.out.cell (i := 0) rfl
  have l0 := H1.out.lt
  clear h1s c1 f1 h1 h2 l1
  go_wp2_with (at_builtin; refine Lib.wpList_append_own_string _ rfl _ _ 66 9 rfl (R + 1) 5 i0 Tryz.underlying66 Tryz.underlying9 hi hz0 hz1 hz2 _ _ _ rfl h2s t rfl (by unfold maxLen; omega) (by omega) (by omega) ?_)
  intro v' w3 hown3 hg3 _
  rw [strCells_bytes, HI.out] at hown3
  have hts2 : t.size = bt.length := by rw [← sz, HI.out]
  rw [hts2] at hown3
  obtain ⟨b2, hw, hbw⟩ := WB.push H1.out h2s hown3 hg3
  have HWB := Lib.hid hw
  obtain ⟨va', vc', rfl⟩ := owns_val hown3
  have d0 := b2.cell (i := 0) rfl
  have g0 := b2.frozen 0
  have m0 := b2.lt
  clear hown3 hg3 hw b2 h2s
  go_wp2
  go_end0
  exact ⟨rfl, by rw [HBT.out]; exact HWB.out, ((hb1.mono (Nat.le_of_lt hRw)).trans hbs).trans hbw⟩
end Go.Proofs.YtidkpnabdfiilaaGreatDoor
