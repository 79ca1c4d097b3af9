/- slices.Index and slices.Contains over conflicts. -/
import Derived.Test.YtdpnfkjafhbndaaGreatDoorRSI
import Derived.Test.YtdpnfkjafhbndaaGreatDoorRYC
namespace Go.Proofs.YtdpnfkjafhbndaaGreatDoor
open Go.RowKit Go.Shelf
attribute [local go_sem] Oper.semAt_some
attribute [local irreducible] Go.wpStill
def anySp (l:List OSpot) (s:OSpot):Bool:=l.any fun t => sameSp t s
theorem hasSpot_any (m:OMod) (s:OSpot):hasSpot m s = anySp (spotsL m.label m.decls) s:=by
 unfold hasSpot anySp sameSp;refine congrArg (fun f => List.any _ f) (funext fun t => ?_);rw [tl,tl]
theorem sameSp_comm (a b:OSpot):sameSp a b = sameSp b a:=by
 rw [Bool.eq_iff_iff,sameSp_iff,sameSp_iff];exact eq_comm
theorem anySp_at {l:List OSpot} {s t:OSpot} {k:Nat} (hk:l[k]? = some t) (h:sameSp s t = true):anySp l s = true:=
 List.any_eq_true.2 ⟨t,List.mem_of_getElem? hk,by rw [sameSp_comm];exact h⟩
theorem anySp_none {l:List OSpot} {s:OSpot} (h:∀ (k:Nat) (t:OSpot),k < l.length→l[k]? = some t→sameSp s t = false):anySp l s = false:=by
 unfold anySp;rw [List.any_eq_false];intro t ht;obtain ⟨k,hk,rfl⟩:=List.getElem_of_mem ht;rw [Bool.not_eq_true,sameSp_comm];exact h k _ hk (List.getElem?_eq_getElem hk)
theorem run_eqlSpot (a b:OSpot) (w:World) (av:Operand→Value) (x y:Operand) (hx:av x = .agg #[.string a.pack,.int .i64 a.kind,.int .i64 a.id,.int .i64 a.pos]) (hy:av y = .agg #[.string b.pack,.int .i64 b.kind,.int .i64 b.id,.int .i64 b.pos]) (o:Oper) (ho:o.op = .binOp .eql 54 x y 54):(execOp av o).run Tryz.prog w = .ok (.value (.bool (sameSp a b))) w:=by
 unfold execOp;simp [go_sem,ho,hx,hy,run_eqSpot]
set_option maxRecDepth 100000 in
set_option maxHeartbeats 2000000 in
theorem spIndex_any (l:List OSpot) (s:OSpot) (a:Option Addr) (c:Nat) (w:World) (h:Reads w [] (spotsT l) (.slice a l.length c)) (hn:l.length≤1000000) :
  Calls Tryz.prog 131 #[.slice a l.length c,.agg #[.string s.pack,.int .i64 s.kind,.int .i64 s.id,.int .i64 s.pos]] w fun e w' => ∃ r:Int,e = .returned (.int .i64 r)∧decide (r ≥ 0) = anySp l s∧Below w.heap.size w w':=by
 have HL:=lH h;clear h;have gs:=CBox.new w 54 #[.string s.pack,.int .i64 s.kind,.int .i64 s.id,.int .i64 s.pos];have hA:=qalloc w (.cells #[.string s.pack,.int .i64 s.kind,.int .i64 s.id,.int .i64 s.pos] 54)
 go_enter Tryz.func131,Tryz.ntmps131
 go_upto_region 1 with (fail)
 generalize World.alloc w _ = W0 at *;have Gs:=lH gs;have HA:=lH hA;clear gs hA;obtain ⟨g0,hg0⟩:∃ g,w.heap.size = g:=⟨_,rfl⟩;rw [hg0] at Gs ⊢;clear hg0;go_wp2
 go_loopw [8] (fun iv wr => ∃ k:Nat,k≤l.length∧iv = .int .i64 k∧Hid (Below W0.heap.size W0 wr)∧Hid (∀ (i:Nat) (t:OSpot),i < k→l[i]? = some t→sameSp s t = false)) (fun iv _ => l.length - (intOf iv).toNat)
 case atStart => exact ⟨0,Nat.zero_le _,rfl,qrefl _,fun i t hi => by omega⟩
 case round =>
  obtain ⟨k,hk,rfl,HW,HK⟩:=hrel;have HB:=lH (HA.out.trans (HW.out.mono HA.out.size))
  by_cases hkl:k < l.length
  ·obtain ⟨t,ht⟩:∃ t,l[k]? = some t:=⟨_,List.getElem?_eq_getElem hkl⟩
   have HLd:=HL.out.below HB.out;obtain ⟨b,o,rfl,hb,e0,e1,e2,e3⟩:=spots_elem HLd ht;have hk1:(k:Int) < (l.length:Int):=by omega
   have HY:Hid (sameSp s t = true→anySp l s = true):=fun h => anySp_at ht h
   have HN:Hid (sameSp s t = false→∀ (i:Nat) (u:OSpot),i < k + 1→l[i]? = some u→sameSp s u = false):=fun h i u hi hu => by
    by_cases e:i = k
    ·subst e;rw [ht] at hu;cases hu;exact h
    ·exact HK.out i u (by omega) hu
   obtain ⟨d0,d1,d2,d3,dl⟩:=cells4 (Gs.out.below HW.out);clear ht HLd HK;have hbw:b < wr.heap.size:=Nat.lt_of_lt_of_le hb (Nat.le_refl _)
   cases hs:sameSp s t with
   | true =>
    have HM:=lH (HY.out hs);clear HN HY;go_wp2_with (fail)
    refine wp_region_noPanic (region_lex (fun W => W.cell? ⟨g0,0,none⟩ = some (.string s.pack)∧W.cell? ⟨g0,1,none⟩ = some (.int .i64 s.kind)∧W.cell? ⟨g0,2,none⟩ = some (.int .i64 s.id)∧W.cell? ⟨g0,3,none⟩ = some (.int .i64 s.pos)∧W.cell? ⟨b,o + k * 4,none⟩ = some (.string t.pack)∧W.cell? ⟨b,o + k * 4 + 1,none⟩ = some (.int .i64 t.kind)∧W.cell? ⟨b,o + k * 4 + 2,none⟩ = some (.int .i64 t.id)∧W.cell? ⟨b,o + k * 4 + 3,none⟩ = some (.int .i64 t.pos)∧g0 < W.heap.size∧b < W.heap.size) [true,true,true,true,true,true] mixedK (by kernel_rfl) (fun _ _ _ _ _ h => h) ⟨d0,d1,d2,d3,e0,e1,e2,e3,dl,hbw⟩ (fun _ => ?_))
    iterate 5 (first | (refine lex_skip (by rfl) ?_;(try simp only [Act.put,List.setIfInBounds_toArray,List.set_cons_zero,List.set_cons_succ])) | (refine lex_take (v:=?_) (by rfl) ?_ ?_;rotate_left;(focus (intro wq hSw;(try dsimp only at hSw);go_simp;(try with_reducible rfl)));(try simp only [Act.put,List.setIfInBounds_toArray,List.set_cons_zero,List.set_cons_succ])))
    refine lex_take (v:=.bool (sameSp s t)) (by rfl) (fun wq _ => run_eqlSpot s t wq _ _ _ rfl rfl _ rfl) ?_
    (try simp only [Act.put,List.setIfInBounds_toArray,List.set_cons_zero,List.set_cons_succ])
    rw [hs];refine lex_end ?_;refine NoPanic.normal ?_;go_wp2;go_ret;exact ⟨(k:Int),rfl,by rw [HM.out];simp,qtrans HB.out ((Mod.refl [] wr).drew.below)⟩
   | false =>
    have HM:=lH (HN.out hs);clear HN HY;go_wp2_with (fail)
    refine wp_region_noPanic (region_lex (fun W => W.cell? ⟨g0,0,none⟩ = some (.string s.pack)∧W.cell? ⟨g0,1,none⟩ = some (.int .i64 s.kind)∧W.cell? ⟨g0,2,none⟩ = some (.int .i64 s.id)∧W.cell? ⟨g0,3,none⟩ = some (.int .i64 s.pos)∧W.cell? ⟨b,o + k * 4,none⟩ = some (.string t.pack)∧W.cell? ⟨b,o + k * 4 + 1,none⟩ = some (.int .i64 t.kind)∧W.cell? ⟨b,o + k * 4 + 2,none⟩ = some (.int .i64 t.id)∧W.cell? ⟨b,o + k * 4 + 3,none⟩ = some (.int .i64 t.pos)∧g0 < W.heap.size∧b < W.heap.size) [true,true,true,true,true,true] mixedK (by kernel_rfl) (fun _ _ _ _ _ h => h) ⟨d0,d1,d2,d3,e0,e1,e2,e3,dl,hbw⟩ (fun _ => ?_))
    iterate 5 (first | (refine lex_skip (by rfl) ?_;(try simp only [Act.put,List.setIfInBounds_toArray,List.set_cons_zero,List.set_cons_succ])) | (refine lex_take (v:=?_) (by rfl) ?_ ?_;rotate_left;(focus (intro wq hSw;(try dsimp only at hSw);go_simp;(try with_reducible rfl)));(try simp only [Act.put,List.setIfInBounds_toArray,List.set_cons_zero,List.set_cons_succ])))
    refine lex_take (v:=.bool (sameSp s t)) (by rfl) (fun wq _ => run_eqlSpot s t wq _ _ _ rfl rfl _ rfl) ?_
    (try simp only [Act.put,List.setIfInBounds_toArray,List.set_cons_zero,List.set_cons_succ])
    rw [hs];refine lex_end ?_;refine NoPanic.normal ?_;go_wp2;go_roundw
    case rel => exact ⟨k + 1,by omega,by go_num,qtrans HW.out ((Mod.refl [] wr).drew.below),HM⟩
    case measure => simp [intOf];omega
  ·have hd2:decide ((k:Int) < (l.length:Int)) = false:=decide_eq_false (by omega)
   have HM:Hid (anySp l s = false):=anySp_none (fun i t hi ht => HK.out i t (by omega) ht);go_wp2;go_ret;exact ⟨-1,rfl,by rw [HM.out];rfl,HB.out⟩
set_option maxRecDepth 100000 in
set_option maxHeartbeats 2000000 in
theorem spContains_any (l:List OSpot) (s:OSpot) (a:Option Addr) (c:Nat) (w:World) (h:Reads w [] (spotsT l) (.slice a l.length c)) (hn:l.length≤1000000) :
  Calls Tryz.prog 82 #[.slice a l.length c,.agg #[.string s.pack,.int .i64 s.kind,.int .i64 s.id,.int .i64 s.pos]] w fun e w' => e = .returned (.bool (anySp l s))∧Below w.heap.size w w':=by
 have hA:=qalloc w (.cells #[.string s.pack,.int .i64 s.kind,.int .i64 s.id,.int .i64 s.pos] 54);have gs:=CBox.new w 54 #[.string s.pack,.int .i64 s.kind,.int .i64 s.id,.int .i64 s.pos];have HI:=lH (spIndex_any l s a c _ (h.below hA) hn);have HA:=lH hA
 go_enter Tryz.func82,Tryz.ntmps82
 obtain ⟨d0,d1,d2,d3,dl⟩:=cells4 gs;clear hA h;go_wp2_with (fail)
 refine HI.out.mono ?_;rintro e w2 ⟨r,rfl,hr,hb⟩;have HB:=lH (qtrans HA.out hb);clear d0 d1 d2 d3 dl gs;go_wp2;go_returns;exact ⟨rfl,HB.out⟩
end Go.Proofs.YtdpnfkjafhbndaaGreatDoor

