/- commute.concerns, commute.independent. commute.independent. -/
import Derived.Test.YtdpnfkjafhbndaaGreatDoorCSEi
import Derived.Handy
import Derived.BigQuiet
import Derived.Test.YtdpnfkjafhbndaaGreatDoorCG8
import Derived.Laws.StructEq
namespace Go.Proofs.YtdpnfkjafhbndaaGreatDoor
open Go.RowKit Go.Shelf
attribute [local go_sem] Oper.semAt_some
def concT (e:OEdit):ByteArray:=if e.kind = 3∨e.kind = 4 then e.text else ⟨#[]⟩
def concI (e:OEdit):Int:=if e.kind≤4 then 0 else if e.kind = 5 then (dAt e.fresh 0).id else (dAt e.old 0).id
def concP (e:OEdit):Int:=if e.kind≤6 then 0 else e.kind
def concV (e:OEdit):Value:=.agg #[.string (concT e),.int .i64 (concI e),.int .i64 (concP e)]
def zeroC (e:OEdit):Bool:=eqS (concT e) ⟨#[]⟩ && (concI e == 0 && concP e == 0)
def sameC (a b:OEdit):Bool:=eqS (concT a) (concT b) && (concI a == concI b && concP a == concP b)
def indepB (a b:OEdit):Bool:=
 if eqS a.pack b.pack then (if zeroC a || zeroC b || sameC a b then false else if concI a != concI b || !(eqS (concT a) (concT b)) then true else (concP a != 0 && concP b != 0)) else true
structure FitE (e:OEdit):Prop where
  lo:1≤e.kind
  hi:e.kind≤9
  old:e.old.length = oldsN e.kind
  fresh:e.fresh.length = newsN e.kind
set_option maxRecDepth 100000 in
set_option maxHeartbeats 8000000 in
theorem concerns_any (e:OEdit) (ao:Option Addr) (co:Nat) (af:Option Addr) (cf:Nat) (w:World) (he:EditIn w e ao co af cf) (hs:FitE e) :
  Calls Tryz.prog 122 #[editV e ao co af cf] w fun r w' => r = .returned (concV e)∧∃ (n:Nat) (Y:Obj),w' = ((w.alloc (.cells #[.int .i64 e.kind,.string e.pack,.string e.text,.slice ao e.old.length co,.slice af e.fresh.length cf] 35)).alloc Y).drewN n:=by
 have HI:=lH he;obtain ⟨hlo,hhi,hol,hfl⟩:=hs;have hp:concV e = .agg #[.string (concT e),.int .i64 (concI e),.int .i64 (concP e)]:=rfl;unfold editV;clear he
 by_cases e1:e.kind = 1
 ·skip
  have k1:(e.kind == 1) = true:=by rw [e1];rfl
  have h1:concT e = ⟨#[]⟩:=by unfold concT;rw [if_neg (by omega)]
  have h2:concI e = 0:=by unfold concI;rw [if_pos (by omega)]
  have h3:concP e = 0:=by unfold concP;rw [if_pos (by omega)]
  rw [h1,h2,h3] at hp;have HP:=lH hp;clear hp h1 h2 h3 hol hfl hlo hhi e1 HI;generalize concV e = T at *
  go_enter Tryz.func122,Tryz.ntmps122
  go_wp2;go_returns;exact ⟨by rw [HP.out],0,_,rfl⟩
 by_cases e2:e.kind = 2
 ·skip
  have k1:(e.kind == 1) = false:=beq_eq_false_iff_ne.2 e1;have k2:(e.kind == 2) = true:=by rw [e2];rfl
  have h1:concT e = ⟨#[]⟩:=by unfold concT;rw [if_neg (by omega)]
  have h2:concI e = 0:=by unfold concI;rw [if_pos (by omega)]
  have h3:concP e = 0:=by unfold concP;rw [if_pos (by omega)]
  rw [h1,h2,h3] at hp;have HP:=lH hp;clear hp h1 h2 h3 hol hfl hlo hhi e1 e2 HI;generalize concV e = T at *
  go_enter Tryz.func122,Tryz.ntmps122
  go_wp2;go_returns;exact ⟨by rw [HP.out],0,_,rfl⟩
 by_cases e3:e.kind = 3
 ·skip
  have k1:(e.kind == 1) = false:=beq_eq_false_iff_ne.2 e1;have k2:(e.kind == 2) = false:=beq_eq_false_iff_ne.2 e2;have k3:(e.kind == 3) = true:=by rw [e3];rfl
  have h1:concT e = e.text:=by unfold concT;rw [if_pos (by omega)]
  have h2:concI e = 0:=by unfold concI;rw [if_pos (by omega)]
  have h3:concP e = 0:=by unfold concP;rw [if_pos (by omega)]
  rw [h1,h2,h3] at hp;have HP:=lH hp;clear hp h1 h2 h3 hol hfl hlo hhi e1 e2 e3 HI;generalize concV e = T at *
  go_enter Tryz.func122,Tryz.ntmps122
  go_wp2;go_returns;exact ⟨by rw [HP.out],0,_,rfl⟩
 by_cases e4:e.kind = 4
 ·skip
  have k1:(e.kind == 1) = false:=beq_eq_false_iff_ne.2 e1;have k2:(e.kind == 2) = false:=beq_eq_false_iff_ne.2 e2;have k3:(e.kind == 3) = false:=beq_eq_false_iff_ne.2 e3;have k4:(e.kind == 4) = true:=by rw [e4];rfl
  have h1:concT e = e.text:=by unfold concT;rw [if_pos (by omega)]
  have h2:concI e = 0:=by unfold concI;rw [if_pos (by omega)]
  have h3:concP e = 0:=by unfold concP;rw [if_pos (by omega)]
  rw [h1,h2,h3] at hp;have HP:=lH hp;clear hp h1 h2 h3 hol hfl hlo hhi e1 e2 e3 e4 HI;generalize concV e = T at *
  go_enter Tryz.func122,Tryz.ntmps122
  go_wp2;go_returns;exact ⟨by rw [HP.out],0,_,rfl⟩
 by_cases e5:e.kind = 5
 ·skip
  have k1:(e.kind == 1) = false:=beq_eq_false_iff_ne.2 e1;have k2:(e.kind == 2) = false:=beq_eq_false_iff_ne.2 e2;have k3:(e.kind == 3) = false:=beq_eq_false_iff_ne.2 e3;have k4:(e.kind == 4) = false:=beq_eq_false_iff_ne.2 e4;have k5:(e.kind == 5) = true:=by rw [e5];rfl
  have h1:concT e = ⟨#[]⟩:=by unfold concT;rw [if_neg (by omega)]
  have h2:concI e = (dAt e.fresh 0).id:=by unfold concI;rw [if_neg (by omega),if_pos (by omega)]
  have h3:concP e = 0:=by unfold concP;rw [if_pos (by omega)]
  rw [h1,h2,h3] at hp;have hn:0 < e.fresh.length:=by rw [hfl];unfold newsN;rw [if_pos (by omega)];omega
  obtain ⟨d,hdi⟩:∃ d,e.fresh[0]? = some d:=⟨_,List.getElem?_eq_getElem hn⟩;obtain ⟨b,o,an,cn,sa,cs,rfl,hbl,hcell,-⟩:=decls_elem HI.out.fresh hdi;have x0:=hcell 0 _ rfl;have x0:w.cell? ⟨b,o,none⟩ = some (.int .i64 d.id):=by simpa using x0
  rw [dAt_of hdi] at hp;have hni:(0:Int) < (e.fresh.length:Int):=by omega
  clear hcell hdi;have HP:=lH hp;clear hp h1 h2 h3 hol hfl hlo hhi e1 e2 e3 e4 e5 HI;generalize concV e = T at *
  go_enter Tryz.func122,Tryz.ntmps122
  go_wp2;go_returns;exact ⟨by rw [HP.out],0,_,rfl⟩
 by_cases e6:e.kind = 6
 ·skip
  have k1:(e.kind == 1) = false:=beq_eq_false_iff_ne.2 e1;have k2:(e.kind == 2) = false:=beq_eq_false_iff_ne.2 e2;have k3:(e.kind == 3) = false:=beq_eq_false_iff_ne.2 e3;have k4:(e.kind == 4) = false:=beq_eq_false_iff_ne.2 e4;have k5:(e.kind == 5) = false:=beq_eq_false_iff_ne.2 e5;have k6:(e.kind == 6) = true:=by rw [e6];rfl
  have h1:concT e = ⟨#[]⟩:=by unfold concT;rw [if_neg (by omega)]
  have h2:concI e = (dAt e.old 0).id:=by unfold concI;rw [if_neg (by omega),if_neg (by omega)]
  have h3:concP e = 0:=by unfold concP;rw [if_pos (by omega)]
  rw [h1,h2,h3] at hp;have hn:0 < e.old.length:=by rw [hol];unfold oldsN;rw [if_pos (by omega)];omega
  obtain ⟨d,hdi⟩:∃ d,e.old[0]? = some d:=⟨_,List.getElem?_eq_getElem hn⟩;obtain ⟨b,o,an,cn,sa,cs,rfl,hbl,hcell,-⟩:=decls_elem HI.out.old hdi;have x0:=hcell 0 _ rfl;have x0:w.cell? ⟨b,o,none⟩ = some (.int .i64 d.id):=by simpa using x0
  rw [dAt_of hdi] at hp;have hni:(0:Int) < (e.old.length:Int):=by omega
  clear hcell hdi;have HP:=lH hp;clear hp h1 h2 h3 hol hfl hlo hhi e1 e2 e3 e4 e5 e6 HI;generalize concV e = T at *
  go_enter Tryz.func122,Tryz.ntmps122
  go_wp2;go_returns;exact ⟨by rw [HP.out],0,_,rfl⟩
 by_cases e7:e.kind = 7
 ·skip
  have k1:(e.kind == 1) = false:=beq_eq_false_iff_ne.2 e1;have k2:(e.kind == 2) = false:=beq_eq_false_iff_ne.2 e2;have k3:(e.kind == 3) = false:=beq_eq_false_iff_ne.2 e3;have k4:(e.kind == 4) = false:=beq_eq_false_iff_ne.2 e4;have k5:(e.kind == 5) = false:=beq_eq_false_iff_ne.2 e5;have k6:(e.kind == 6) = false:=beq_eq_false_iff_ne.2 e6;have h1:concT e = ⟨#[]⟩:=by unfold concT;rw [if_neg (by omega)]
  have h2:concI e = (dAt e.old 0).id:=by unfold concI;rw [if_neg (by omega),if_neg (by omega)]
  have h3:concP e = e.kind:=by unfold concP;rw [if_neg (by omega)]
  rw [h1,h2,h3] at hp;have hn:0 < e.old.length:=by rw [hol];unfold oldsN;rw [if_pos (by omega)];omega
  obtain ⟨d,hdi⟩:∃ d,e.old[0]? = some d:=⟨_,List.getElem?_eq_getElem hn⟩;obtain ⟨b,o,an,cn,sa,cs,rfl,hbl,hcell,-⟩:=decls_elem HI.out.old hdi;have x0:=hcell 0 _ rfl;have x0:w.cell? ⟨b,o,none⟩ = some (.int .i64 d.id):=by simpa using x0
  rw [dAt_of hdi] at hp;have hni:(0:Int) < (e.old.length:Int):=by omega
  clear hcell hdi;have HP:=lH hp;clear hp h1 h2 h3 hol hfl hlo hhi e1 e2 e3 e4 e5 e6 e7 HI;generalize concV e = T at *
  go_enter Tryz.func122,Tryz.ntmps122
  go_upto_region 12 with (fail)
  go_region
  all_goals (go_wp2;go_returns;exact ⟨by rw [HP.out],1,_,rfl⟩)
 by_cases e8:e.kind = 8
 ·skip
  have k1:(e.kind == 1) = false:=beq_eq_false_iff_ne.2 e1;have k2:(e.kind == 2) = false:=beq_eq_false_iff_ne.2 e2;have k3:(e.kind == 3) = false:=beq_eq_false_iff_ne.2 e3;have k4:(e.kind == 4) = false:=beq_eq_false_iff_ne.2 e4;have k5:(e.kind == 5) = false:=beq_eq_false_iff_ne.2 e5;have k6:(e.kind == 6) = false:=beq_eq_false_iff_ne.2 e6;have h1:concT e = ⟨#[]⟩:=by unfold concT;rw [if_neg (by omega)]
  have h2:concI e = (dAt e.old 0).id:=by unfold concI;rw [if_neg (by omega),if_neg (by omega)]
  have h3:concP e = e.kind:=by unfold concP;rw [if_neg (by omega)]
  rw [h1,h2,h3] at hp;have hn:0 < e.old.length:=by rw [hol];unfold oldsN;rw [if_pos (by omega)];omega
  obtain ⟨d,hdi⟩:∃ d,e.old[0]? = some d:=⟨_,List.getElem?_eq_getElem hn⟩;obtain ⟨b,o,an,cn,sa,cs,rfl,hbl,hcell,-⟩:=decls_elem HI.out.old hdi;have x0:=hcell 0 _ rfl;have x0:w.cell? ⟨b,o,none⟩ = some (.int .i64 d.id):=by simpa using x0
  rw [dAt_of hdi] at hp;have hni:(0:Int) < (e.old.length:Int):=by omega
  clear hcell hdi;have HP:=lH hp;clear hp h1 h2 h3 hol hfl hlo hhi e1 e2 e3 e4 e5 e6 e7 e8 HI;generalize concV e = T at *
  go_enter Tryz.func122,Tryz.ntmps122
  go_upto_region 12 with (fail)
  go_region
  all_goals (go_wp2;go_returns;exact ⟨by rw [HP.out],1,_,rfl⟩)
 have e9:e.kind = 9:=by omega
 have k1:(e.kind == 1) = false:=beq_eq_false_iff_ne.2 e1;have k2:(e.kind == 2) = false:=beq_eq_false_iff_ne.2 e2;have k3:(e.kind == 3) = false:=beq_eq_false_iff_ne.2 e3;have k4:(e.kind == 4) = false:=beq_eq_false_iff_ne.2 e4;have k5:(e.kind == 5) = false:=beq_eq_false_iff_ne.2 e5;have k6:(e.kind == 6) = false:=beq_eq_false_iff_ne.2 e6;have h1:concT e = ⟨#[]⟩:=by unfold concT;rw [if_neg (by omega)]
 have h2:concI e = (dAt e.old 0).id:=by unfold concI;rw [if_neg (by omega),if_neg (by omega)]
 have h3:concP e = e.kind:=by unfold concP;rw [if_neg (by omega)]
 rw [h1,h2,h3] at hp;have hn:0 < e.old.length:=by rw [hol];unfold oldsN;rw [if_pos (by omega)];omega
 obtain ⟨d,hdi⟩:∃ d,e.old[0]? = some d:=⟨_,List.getElem?_eq_getElem hn⟩;obtain ⟨b,o,an,cn,sa,cs,rfl,hbl,hcell,-⟩:=decls_elem HI.out.old hdi;have x0:=hcell 0 _ rfl;have x0:w.cell? ⟨b,o,none⟩ = some (.int .i64 d.id):=by simpa using x0
 rw [dAt_of hdi] at hp;have hni:(0:Int) < (e.old.length:Int):=by omega
 clear hcell hdi;have HP:=lH hp;clear hp h1 h2 h3 hol hfl hlo hhi e1 e2 e3 e4 e5 e6 e7 e8 e9 HI;generalize concV e = T at *
 go_enter Tryz.func122,Tryz.ntmps122
 go_upto_region 12 with (fail)
 go_region
 all_goals (go_wp2;go_returns;exact ⟨by rw [HP.out],1,_,rfl⟩)
set_option maxRecDepth 100000 in
theorem eql_conc (w:World) (s1 s2:ByteArray) (i1 i2 p1 p2:Int) :
  (binOp .eql 151 (.agg #[.string s1,.int .i64 i1,.int .i64 p1]) (.agg #[.string s2,.int .i64 i2,.int .i64 p2])).run Tryz.prog w = .ok (.bool (eqS s1 s2 && (i1 == i2 && p1 == p2))) w:=by
 rw [run_eql_struct,run_equalIn_agg _ _ _ _ _ (by kernel_rfl) (by kernel_rfl)];have hf:(Tryz.prog.fieldsOf 151).toList.map (fun f => (f.name == "_",f.type,f.offset)) = [(false,9,0),(false,3,1),(false,3,2)]:=by kernel_rfl
 generalize (Tryz.prog.fieldsOf 151).toList = l at *;have hl:l.length = 3:=by have:=congrArg List.length hf;simpa using this
 match l,hl,hf with
 | [f0,f1,f2],_,hf =>
  simp only [List.map_cons,List.map_nil,List.cons.injEq,Prod.mk.injEq,beq_eq_false_iff_ne,ne_eq,and_true] at hf
  obtain ⟨⟨n0,t0,o0⟩,⟨n1,t1,o1⟩,⟨n2,t2,o2⟩⟩:=hf;have a1:∀ (w:World) (a b:ByteArray),(Op.equalIn 9999 9 (.string a) (.string b)).run Tryz.prog w = .ok (a.toList == b.toList) w:=fun w a b => run_equalIn_string w 9998 _ a b Tryz.underlying9;have a2:∀ (w:World) (a b:Int),(Op.equalIn 9999 3 (.int .i64 a) (.int .i64 b)).run Tryz.prog w = .ok (a == b) w:=fun w a b => run_equalIn_int w 9998 _ _ _ a b Tryz.underlying3
  have u0:∀ (w:World) (a:ByteArray) (b c:Int),(part 9 #[.string a,.int .i64 b,.int .i64 c] 0).run Tryz.prog w = .ok (.string a) w:=fun w a b c => by go_simp
  have u1:∀ (w:World) (a:ByteArray) (b c:Int),(part 3 #[.string a,.int .i64 b,.int .i64 c] 1).run Tryz.prog w = .ok (.int .i64 b) w:=fun w a b c => by go_simp
  have u2:∀ (w:World) (a:ByteArray) (b c:Int),(part 3 #[.string a,.int .i64 b,.int .i64 c] 2).run Tryz.prog w = .ok (.int .i64 c) w:=fun w a b c => by go_simp
  simp only [Op.eqFields,t0,t1,t2,o0,o1,o2]
  rw [if_pos n0,if_pos n1,if_pos n2];simp only [Sem.run_bind,u0,Result.andThen_ok,a1,eqS]
  cases hx:s1.toList == s2.toList <;> cases hy:i1 == i2 <;> cases hz:p1 == p2 <;> simp only [Bool.not_true,Bool.not_false,Bool.false_eq_true,if_false,if_true,Sem.run_bind,Sem.run_pure,u1,u2,a2,Result.andThen_ok,Bool.and_true,Bool.and_false,hy,hz]
-- GEN
set_option maxRecDepth 100000 in
set_option maxHeartbeats 16000000 in
theorem cIndep_any (e f:OEdit) (ao:Option Addr) (co:Nat) (af:Option Addr) (cf:Nat) (bo:Option Addr) (do':Nat) (bf:Option Addr) (df:Nat) (w:World) (he:EditIn w e ao co af cf) (hf:EditIn w f bo do' bf df) (hse:FitE e) (hsf:FitE f) :
  Calls Tryz.prog 64 #[editV e ao co af cf,editV f bo do' bf df] w fun r w' => r = .returned (.bool (indepB e f))∧Below w.heap.size w w':=by
 have HC1:=lH (fun W (h:Below w.heap.size w W) => (concerns_any e ao co af cf W (he.below h) hse).mono (R':=fun r w' => r = .returned (concV e)∧Below W.heap.size W w') (fun r w' h => ⟨h.1,by obtain ⟨-,n,Y,rfl⟩:=h;exact below_drewN (qtrans (qalloc _ _) (qalloc _ _)) _⟩));have HC2:=lH (fun W (h:Below w.heap.size w W) => (concerns_any f bo do' bf df W (hf.below h) hsf).mono (R':=fun r w' => r = .returned (concV f)∧Below W.heap.size W w') (fun r w' h => ⟨h.1,by obtain ⟨-,n,Y,rfl⟩:=h;exact below_drewN (qtrans (qalloc _ _) (qalloc _ _)) _⟩))
 have hgd:Tryz.prog.eqGuardType Tryz.prog.depth 151 = false:=by kernel_rfl
 have HP:Hid (indepB e f = if eqS e.pack f.pack then (if zeroC e || zeroC f || sameC e f then false else if concI e != concI f || !(eqS (concT e) (concT f)) then true else (concP e != 0 && concP f != 0)) else true):=rfl;clear he hf hse hsf;unfold editV concV at *
 cases hpk:e.pack.toList == f.pack.toList with
 | false =>
  have HF:Hid (indepB e f = true):=by show _ = _;rw [HP.out];unfold eqS;rw [hpk];rfl
  clear HP;generalize indepB e f = T at *
  go_enter Tryz.func64,Tryz.ntmps64
  go_wp2;go_ret;exact ⟨ret_bool HF.out.symm,qtrans (qalloc _ _) (qalloc _ _)⟩
 | true =>
  have hpe:eqS e.pack f.pack = true:=hpk;rw [hpe,if_pos rfl] at HP;clear hpe;generalize indepB e f = T at *;have HZ1:Hid (zeroC e = (eqS (concT e) ⟨#[]⟩ && (concI e == 0 && concP e == 0))):=rfl;have HZ2:Hid (zeroC f = (eqS (concT f) ⟨#[]⟩ && (concI f == 0 && concP f == 0))):=rfl;have HZ3:Hid (sameC e f = (eqS (concT e) (concT f) && (concI e == concI f && concP e == concP f))):=rfl;generalize concT e = t1 at *;generalize concT f = t2 at *;generalize concI e = i1 at *;generalize concI f = i2 at *;generalize concP e = p1 at *;generalize concP f = p2 at *
  go_enter Tryz.func64,Tryz.ntmps64
  go_upto_region 3 with (fail)
  go_cut [5,6] from 13 to 50 (fun p q wx => ∃ D1 D2,p = .pointer (some ⟨D1,0,none⟩)∧q = .pointer (some ⟨D2,0,none⟩)∧CBox wx D1 151 #[.string t1,.int .i64 i1,.int .i64 p1]∧CBox wx D2 151 #[.string t2,.int .i64 i2,.int .i64 p2]∧Below w.heap.size w wx)
  case first =>
   obtain ⟨g1,g2,g3⟩:=two_boxes w 35 #[.int .i64 e.kind,.string e.pack,.string e.text,.slice ao e.old.length co,.slice af e.fresh.length cf] #[.int .i64 f.kind,.string f.pack,.string f.text,.slice bo f.old.length do',.slice bf f.fresh.length df]
   have hsw:((w.alloc (.cells #[.int .i64 e.kind,.string e.pack,.string e.text,.slice ao e.old.length co,.slice af e.fresh.length cf] 35)).alloc (.cells #[.int .i64 f.kind,.string f.pack,.string f.text,.slice bo f.old.length do',.slice bf f.fresh.length df] 35)).heap.size = w.heap.size + 1 + 1:=by simp only [World.size_alloc]
   generalize (w.alloc (.cells #[.int .i64 e.kind,.string e.pack,.string e.text,.slice ao e.old.length co,.slice af e.fresh.length cf] 35)).alloc (.cells #[.int .i64 f.kind,.string f.pack,.string f.text,.slice bo f.old.length do',.slice bf f.fresh.length df] 35) = W0 at *;have hB1:w.heap.size < W0.heap.size:=g1.lt;have hwW:w.heap.size≤W0.heap.size:=by omega
   generalize hB2':w.heap.size + 1 = B2 at *;generalize hB1':w.heap.size = B1 at *;have hB2:B2 < W0.heap.size:=g2.lt
   have SW:Hid (∀ W:World,Below W0.heap.size W0 W→(W.cell? ⟨B1,0,none⟩ = some (.int .i64 e.kind)∧W.cell? ⟨B1,1,none⟩ = some (.string e.pack)∧W.cell? ⟨B1,2,none⟩ = some (.string e.text)∧W.cell? ⟨B1,3,none⟩ = some (.slice ao e.old.length co)∧W.cell? ⟨B1,4,none⟩ = some (.slice af e.fresh.length cf)∧W.cell? ⟨B2,0,none⟩ = some (.int .i64 f.kind)∧W.cell? ⟨B2,1,none⟩ = some (.string f.pack)∧W.cell? ⟨B2,2,none⟩ = some (.string f.text)∧W.cell? ⟨B2,3,none⟩ = some (.slice bo f.old.length do')∧W.cell? ⟨B2,4,none⟩ = some (.slice bf f.fresh.length df)∧B1 < W.heap.size∧B2 < W.heap.size)):=lH (fun W h => by
    have c1:=g1.below h;have c2:=g2.below h
    exact ⟨c1.cell (i:=0) rfl,c1.cell (i:=1) rfl,c1.cell (i:=2) rfl,c1.cell (i:=3) rfl,c1.cell (i:=4) rfl,c2.cell (i:=0) rfl,c2.cell (i:=1) rfl,c2.cell (i:=2) rfl,c2.cell (i:=3) rfl,c2.cell (i:=4) rfl,c1.lt,c2.lt⟩)
   have HW:Hid (∀ W:World,Below W0.heap.size W0 W→Below B1 w W):=lH (fun W h => g3.trans (h.mono hwW));have hb0:Below W0.heap.size W0 W0.drew:=(Mod.refl [] W0).drew.below;clear g1 g2 g3 hsw hB2' hB1' hB1 hB2
   refine wp_region_noPanic (region_planT (fun W:World => W.cell? ⟨B1,0,none⟩ = some (.int .i64 e.kind)∧W.cell? ⟨B1,1,none⟩ = some (.string e.pack)∧W.cell? ⟨B1,2,none⟩ = some (.string e.text)∧W.cell? ⟨B1,3,none⟩ = some (.slice ao e.old.length co)∧W.cell? ⟨B1,4,none⟩ = some (.slice af e.fresh.length cf)∧W.cell? ⟨B2,0,none⟩ = some (.int .i64 f.kind)∧W.cell? ⟨B2,1,none⟩ = some (.string f.pack)∧W.cell? ⟨B2,2,none⟩ = some (.string f.text)∧W.cell? ⟨B2,3,none⟩ = some (.slice bo f.old.length do')∧W.cell? ⟨B2,4,none⟩ = some (.slice bf f.fresh.length df)∧B1 < W.heap.size∧B2 < W.heap.size) (.take 0 (.take 2 (.three 1 4 5 (.three 3 4 5 (.two 4 5 (.one 5 (.one 6 (.one 7 .done))) (.one 4 (.one 6 (.one 7 .done)))) (.two 3 5 (.one 5 (.one 6 (.one 7 .done))) (.one 3 (.one 6 (.one 7 .done)))) (.two 3 4 (.one 4 (.one 6 (.one 7 .done))) (.one 3 (.one 6 (.one 7 .done))))) (.two 1 5 (.two 3 5 (.one 5 (.one 6 (.one 7 .done))) (.one 3 (.one 6 (.one 7 .done)))) (.one 1 (.one 3 (.one 6 (.one 7 .done))))) (.two 1 4 (.two 3 4 (.one 4 (.one 6 (.one 7 .done))) (.one 3 (.one 6 (.one 7 .done)))) (.one 1 (.one 3 (.one 6 (.one 7 .done)))))))) mixedK (by kernel_rfl) (fun _ _ _ _ _ h => h) (SW.out _ hb0) ?_)
   iterate 2 (refine planT_take (v:=?_) rfl (by rfl) ?_ ?_;rotate_left;(focus (intro wq hSw;(try dsimp only at hSw);go_simp;(try with_reducible rfl)));(try simp only [gA,gB,gC,Act.put,gD,gE,gF]))
   generalize W0.drew = v0 at *;refine planT_three ?_ ?_ ?_
   ·skip
    refine planT_one rfl (by rfl) (fun K hK => ?_);go_simp;refine (HC1.out _ (HW.out _ hb0)).mono ?_;rintro r v1 ⟨rfl,hq1⟩
    (try go_simp)
    have hb1:=qtrans hb0 hq1;refine hK.out _ _ (SW.out _ hb1) ?_;clear hK K;(try simp only [gA,gB,gC,Act.put,gD,gE,gF]);refine planT_three ?_ ?_ ?_
    ·skip
     refine planT_one rfl (by rfl) (fun K hK => ?_);go_simp;refine (HC2.out _ (HW.out _ hb1)).mono ?_;rintro r v2 ⟨rfl,hq2⟩
     (try go_simp)
     have hb2:=qtrans hb1 hq2;refine hK.out _ _ (SW.out _ hb2) ?_;clear hK K;(try simp only [gA,gB,gC,Act.put,gD,gE,gF]);refine planT_two ?_ ?_
     ·skip
      have a3:=CBox.new v2 151 #[.string ⟨#[]⟩,.int .i64 0,.int .i64 0];have ge3:=hb2.size;have hb3:=qtrans hb2 (qalloc v2 (.cells #[.string ⟨#[]⟩,.int .i64 0,.int .i64 0] 151));refine planT_one rfl (by rfl) (fun K hK => ?_);go_simp;refine hK.out _ _ (SW.out _ hb3) ?_;clear hK K;(try simp only [gA,gB,gC,Act.put,gD,gE,gF]);generalize v2.alloc (.cells #[.string ⟨#[]⟩,.int .i64 0,.int .i64 0] 151) = v3 at *;generalize v2.heap.size = d3 at *;have a4:=CBox.new v3 151 #[.string ⟨#[]⟩,.int .i64 0,.int .i64 0];have ge4:=hb3.size
      have c4_4:=a3.alloc (.cells #[.string ⟨#[]⟩,.int .i64 0,.int .i64 0] 151);have ne4:=a3.lt;have hb4:=qtrans hb3 (qalloc v3 (.cells #[.string ⟨#[]⟩,.int .i64 0,.int .i64 0] 151));refine planT_one rfl (by rfl) (fun K hK => ?_);go_simp;refine hK.out _ _ (SW.out _ hb4) ?_;clear hK K;(try simp only [gA,gB,gC,Act.put,gD,gE,gF]);generalize v3.alloc (.cells #[.string ⟨#[]⟩,.int .i64 0,.int .i64 0] 151) = v4 at *;generalize v3.heap.size = d4 at *;have f0:=c4_4.frozen 0;have f1:=c4_4.frozen 1;have f2:=c4_4.frozen 2
      have y0:=c4_4.cell (i:=0) (v:=.string ⟨#[]⟩) rfl;have y1:=c4_4.cell (i:=1) (v:=.int .i64 0) rfl;have y2:=c4_4.cell (i:=2) (v:=.int .i64 0) rfl;have yl:=c4_4.lt;have m5:=((((Mod.refl [d3] v4).setCell (p:=⟨d3,0,none⟩) (by simp) (.string t1)).setCell (p:=⟨d3,1,none⟩) (by simp) (.int .i64 i1)).setCell (p:=⟨d3,2,none⟩) (by simp) (.int .i64 p1))
      have c5:CBox (((v4.setCell ⟨d3,0,none⟩ (.string t1)).setCell ⟨d3,1,none⟩ (.int .i64 i1)).setCell ⟨d3,2,none⟩ (.int .i64 p1)) d3 151 #[.string t1,.int .i64 i1,.int .i64 p1]:=(((c4_4.set 0 (.string t1)).set 1 (.int .i64 i1)).set 2 (.int .i64 p1));have k5:=a4.mod m5 (by simp;omega);have hb5:=hb4.trans (m5.upto hb4.size (by simp;omega));refine planT_one rfl (by rfl) (fun K hK => ?_);go_simp;refine hK.out _ _ (SW.out _ hb5) ?_;clear hK K;(try simp only [gA,gB,gC,Act.put,gD,gE,gF]);clear f0 f1 f2 y0 y1 y2 yl m5
      generalize (((v4.setCell ⟨d3,0,none⟩ (.string t1)).setCell ⟨d3,1,none⟩ (.int .i64 i1)).setCell ⟨d3,2,none⟩ (.int .i64 p1)) = v5 at *;have f0:=k5.frozen 0;have f1:=k5.frozen 1;have f2:=k5.frozen 2;have y0:=k5.cell (i:=0) (v:=.string ⟨#[]⟩) rfl;have y1:=k5.cell (i:=1) (v:=.int .i64 0) rfl;have y2:=k5.cell (i:=2) (v:=.int .i64 0) rfl;have yl:=k5.lt
      have m6:=((((Mod.refl [d4] v5).setCell (p:=⟨d4,0,none⟩) (by simp) (.string t2)).setCell (p:=⟨d4,1,none⟩) (by simp) (.int .i64 i2)).setCell (p:=⟨d4,2,none⟩) (by simp) (.int .i64 p2));have c6:CBox (((v5.setCell ⟨d4,0,none⟩ (.string t2)).setCell ⟨d4,1,none⟩ (.int .i64 i2)).setCell ⟨d4,2,none⟩ (.int .i64 p2)) d4 151 #[.string t2,.int .i64 i2,.int .i64 p2]:=(((k5.set 0 (.string t2)).set 1 (.int .i64 i2)).set 2 (.int .i64 p2));have k6:=c5.mod m6 (by simp;omega);have hb6:=hb5.trans (m6.upto hb5.size (by simp;omega))
      refine planT_one rfl (by rfl) (fun K hK => ?_);go_simp;refine hK.out _ _ (SW.out _ hb6) ?_;clear hK K;(try simp only [gA,gB,gC,Act.put,gD,gE,gF]);clear f0 f1 f2 y0 y1 y2 yl m6;generalize (((v5.setCell ⟨d4,0,none⟩ (.string t2)).setCell ⟨d4,1,none⟩ (.int .i64 i2)).setCell ⟨d4,2,none⟩ (.int .i64 p2)) = v6 at *;refine planT_done ?_;refine NoPanic.normal ?_
      (try go_wp2)
      go_meet
      case rel => exact ⟨_,_,rfl,rfl,k6,c6,HW.out _ hb6⟩
     ·skip
      have a7:=CBox.new v2 151 #[.string ⟨#[]⟩,.int .i64 0,.int .i64 0];have ge7:=hb2.size;have hb7:=qtrans hb2 (qalloc v2 (.cells #[.string ⟨#[]⟩,.int .i64 0,.int .i64 0] 151));refine planT_one rfl (by rfl) (fun K hK => ?_);go_simp;refine hK.out _ _ (SW.out _ hb7) ?_;clear hK K;(try simp only [gA,gB,gC,Act.put,gD,gE,gF]);generalize v2.alloc (.cells #[.string ⟨#[]⟩,.int .i64 0,.int .i64 0] 151) = v7 at *;generalize v2.heap.size = d7 at *;have a8:=CBox.new v7 151 #[.string ⟨#[]⟩,.int .i64 0,.int .i64 0];have ge8:=hb7.size
      have c8_5:=a7.alloc (.cells #[.string ⟨#[]⟩,.int .i64 0,.int .i64 0] 151);have ne8:=a7.lt;have hb8:=qtrans hb7 (qalloc v7 (.cells #[.string ⟨#[]⟩,.int .i64 0,.int .i64 0] 151));refine planT_one rfl (by rfl) (fun K hK => ?_);go_simp;refine hK.out _ _ (SW.out _ hb8) ?_;clear hK K;(try simp only [gA,gB,gC,Act.put,gD,gE,gF]);generalize v7.alloc (.cells #[.string ⟨#[]⟩,.int .i64 0,.int .i64 0] 151) = v8 at *;generalize v7.heap.size = d8 at *;have f0:=a8.frozen 0;have f1:=a8.frozen 1;have f2:=a8.frozen 2
      have y0:=a8.cell (i:=0) (v:=.string ⟨#[]⟩) rfl;have y1:=a8.cell (i:=1) (v:=.int .i64 0) rfl;have y2:=a8.cell (i:=2) (v:=.int .i64 0) rfl;have yl:=a8.lt;have m9:=((((Mod.refl [d8] v8).setCell (p:=⟨d8,0,none⟩) (by simp) (.string t1)).setCell (p:=⟨d8,1,none⟩) (by simp) (.int .i64 i1)).setCell (p:=⟨d8,2,none⟩) (by simp) (.int .i64 p1))
      have c9:CBox (((v8.setCell ⟨d8,0,none⟩ (.string t1)).setCell ⟨d8,1,none⟩ (.int .i64 i1)).setCell ⟨d8,2,none⟩ (.int .i64 p1)) d8 151 #[.string t1,.int .i64 i1,.int .i64 p1]:=(((a8.set 0 (.string t1)).set 1 (.int .i64 i1)).set 2 (.int .i64 p1));have k9:=c8_5.mod m9 (by simp;omega);have hb9:=hb8.trans (m9.upto hb8.size (by simp;omega));refine planT_one rfl (by rfl) (fun K hK => ?_);go_simp;refine hK.out _ _ (SW.out _ hb9) ?_;clear hK K;(try simp only [gA,gB,gC,Act.put,gD,gE,gF]);clear f0 f1 f2 y0 y1 y2 yl m9
      generalize (((v8.setCell ⟨d8,0,none⟩ (.string t1)).setCell ⟨d8,1,none⟩ (.int .i64 i1)).setCell ⟨d8,2,none⟩ (.int .i64 p1)) = v9 at *;have f0:=k9.frozen 0;have f1:=k9.frozen 1;have f2:=k9.frozen 2;have y0:=k9.cell (i:=0) (v:=.string ⟨#[]⟩) rfl;have y1:=k9.cell (i:=1) (v:=.int .i64 0) rfl;have y2:=k9.cell (i:=2) (v:=.int .i64 0) rfl;have yl:=k9.lt
      have m10:=((((Mod.refl [d7] v9).setCell (p:=⟨d7,0,none⟩) (by simp) (.string t2)).setCell (p:=⟨d7,1,none⟩) (by simp) (.int .i64 i2)).setCell (p:=⟨d7,2,none⟩) (by simp) (.int .i64 p2));have c10:CBox (((v9.setCell ⟨d7,0,none⟩ (.string t2)).setCell ⟨d7,1,none⟩ (.int .i64 i2)).setCell ⟨d7,2,none⟩ (.int .i64 p2)) d7 151 #[.string t2,.int .i64 i2,.int .i64 p2]:=(((k9.set 0 (.string t2)).set 1 (.int .i64 i2)).set 2 (.int .i64 p2));have k10:=c9.mod m10 (by simp;omega);have hb10:=hb9.trans (m10.upto hb9.size (by simp;omega))
      refine planT_one rfl (by rfl) (fun K hK => ?_);go_simp;refine hK.out _ _ (SW.out _ hb10) ?_;clear hK K;(try simp only [gA,gB,gC,Act.put,gD,gE,gF]);clear f0 f1 f2 y0 y1 y2 yl m10;generalize (((v9.setCell ⟨d7,0,none⟩ (.string t2)).setCell ⟨d7,1,none⟩ (.int .i64 i2)).setCell ⟨d7,2,none⟩ (.int .i64 p2)) = v10 at *;refine planT_done ?_;refine NoPanic.normal ?_
      (try go_wp2)
      go_meet
      case rel => exact ⟨_,_,rfl,rfl,k10,c10,HW.out _ hb10⟩
    ·skip
     have a11:=CBox.new v1 151 #[.string ⟨#[]⟩,.int .i64 0,.int .i64 0];have ge11:=hb1.size;have hb11:=qtrans hb1 (qalloc v1 (.cells #[.string ⟨#[]⟩,.int .i64 0,.int .i64 0] 151));refine planT_one rfl (by rfl) (fun K hK => ?_);go_simp;refine hK.out _ _ (SW.out _ hb11) ?_;clear hK K;(try simp only [gA,gB,gC,Act.put,gD,gE,gF]);generalize v1.alloc (.cells #[.string ⟨#[]⟩,.int .i64 0,.int .i64 0] 151) = v11 at *;generalize v1.heap.size = d11 at *;refine planT_two ?_ ?_
     ·skip
      refine planT_one rfl (by rfl) (fun K hK => ?_);go_simp;refine (HC2.out _ (HW.out _ hb11)).mono ?_;rintro r v12 ⟨rfl,hq12⟩
      (try go_simp)
      have hb12:=qtrans hb11 hq12;have c12_4:=a11.below hq12;refine hK.out _ _ (SW.out _ hb12) ?_;clear hK K;(try simp only [gA,gB,gC,Act.put,gD,gE,gF]);have a13:=CBox.new v12 151 #[.string ⟨#[]⟩,.int .i64 0,.int .i64 0];have ge13:=hb12.size;have c13_4:=c12_4.alloc (.cells #[.string ⟨#[]⟩,.int .i64 0,.int .i64 0] 151);have ne13:=c12_4.lt;have hb13:=qtrans hb12 (qalloc v12 (.cells #[.string ⟨#[]⟩,.int .i64 0,.int .i64 0] 151));refine planT_one rfl (by rfl) (fun K hK => ?_);go_simp
      refine hK.out _ _ (SW.out _ hb13) ?_;clear hK K;(try simp only [gA,gB,gC,Act.put,gD,gE,gF]);generalize v12.alloc (.cells #[.string ⟨#[]⟩,.int .i64 0,.int .i64 0] 151) = v13 at *;generalize v12.heap.size = d13 at *;have f0:=c13_4.frozen 0;have f1:=c13_4.frozen 1;have f2:=c13_4.frozen 2;have y0:=c13_4.cell (i:=0) (v:=.string ⟨#[]⟩) rfl;have y1:=c13_4.cell (i:=1) (v:=.int .i64 0) rfl;have y2:=c13_4.cell (i:=2) (v:=.int .i64 0) rfl;have yl:=c13_4.lt
      have m14:=((((Mod.refl [d11] v13).setCell (p:=⟨d11,0,none⟩) (by simp) (.string t1)).setCell (p:=⟨d11,1,none⟩) (by simp) (.int .i64 i1)).setCell (p:=⟨d11,2,none⟩) (by simp) (.int .i64 p1));have c14:CBox (((v13.setCell ⟨d11,0,none⟩ (.string t1)).setCell ⟨d11,1,none⟩ (.int .i64 i1)).setCell ⟨d11,2,none⟩ (.int .i64 p1)) d11 151 #[.string t1,.int .i64 i1,.int .i64 p1]:=(((c13_4.set 0 (.string t1)).set 1 (.int .i64 i1)).set 2 (.int .i64 p1));have k14:=a13.mod m14 (by simp;omega);have hb14:=hb13.trans (m14.upto hb13.size (by simp;omega))
      refine planT_one rfl (by rfl) (fun K hK => ?_);go_simp;refine hK.out _ _ (SW.out _ hb14) ?_;clear hK K;(try simp only [gA,gB,gC,Act.put,gD,gE,gF]);clear f0 f1 f2 y0 y1 y2 yl m14;generalize (((v13.setCell ⟨d11,0,none⟩ (.string t1)).setCell ⟨d11,1,none⟩ (.int .i64 i1)).setCell ⟨d11,2,none⟩ (.int .i64 p1)) = v14 at *;have f0:=k14.frozen 0;have f1:=k14.frozen 1;have f2:=k14.frozen 2;have y0:=k14.cell (i:=0) (v:=.string ⟨#[]⟩) rfl;have y1:=k14.cell (i:=1) (v:=.int .i64 0) rfl;have y2:=k14.cell (i:=2) (v:=.int .i64 0) rfl
      have yl:=k14.lt;have m15:=((((Mod.refl [d13] v14).setCell (p:=⟨d13,0,none⟩) (by simp) (.string t2)).setCell (p:=⟨d13,1,none⟩) (by simp) (.int .i64 i2)).setCell (p:=⟨d13,2,none⟩) (by simp) (.int .i64 p2));have c15:CBox (((v14.setCell ⟨d13,0,none⟩ (.string t2)).setCell ⟨d13,1,none⟩ (.int .i64 i2)).setCell ⟨d13,2,none⟩ (.int .i64 p2)) d13 151 #[.string t2,.int .i64 i2,.int .i64 p2]:=(((k14.set 0 (.string t2)).set 1 (.int .i64 i2)).set 2 (.int .i64 p2));have k15:=c14.mod m15 (by simp;omega)
      have hb15:=hb14.trans (m15.upto hb14.size (by simp;omega));refine planT_one rfl (by rfl) (fun K hK => ?_);go_simp;refine hK.out _ _ (SW.out _ hb15) ?_;clear hK K;(try simp only [gA,gB,gC,Act.put,gD,gE,gF]);clear f0 f1 f2 y0 y1 y2 yl m15;generalize (((v14.setCell ⟨d13,0,none⟩ (.string t2)).setCell ⟨d13,1,none⟩ (.int .i64 i2)).setCell ⟨d13,2,none⟩ (.int .i64 p2)) = v15 at *;refine planT_done ?_;refine NoPanic.normal ?_
      (try go_wp2)
      go_meet
      case rel => exact ⟨_,_,rfl,rfl,k15,c15,HW.out _ hb15⟩
     ·skip
      have a16:=CBox.new v11 151 #[.string ⟨#[]⟩,.int .i64 0,.int .i64 0];have ge16:=hb11.size;have c16_4:=a11.alloc (.cells #[.string ⟨#[]⟩,.int .i64 0,.int .i64 0] 151);have ne16:=a11.lt;have hb16:=qtrans hb11 (qalloc v11 (.cells #[.string ⟨#[]⟩,.int .i64 0,.int .i64 0] 151));refine planT_one rfl (by rfl) (fun K hK => ?_);go_simp;refine hK.out _ _ (SW.out _ hb16) ?_;clear hK K;(try simp only [gA,gB,gC,Act.put,gD,gE,gF]);generalize v11.alloc (.cells #[.string ⟨#[]⟩,.int .i64 0,.int .i64 0] 151) = v16 at *;generalize v11.heap.size = d16 at *
      refine planT_one rfl (by rfl) (fun K hK => ?_);go_simp;refine (HC2.out _ (HW.out _ hb16)).mono ?_;rintro r v17 ⟨rfl,hq17⟩
      (try go_simp)
      have hb17:=qtrans hb16 hq17;have c17_4:=c16_4.below hq17;have c17_5:=a16.below hq17;refine hK.out _ _ (SW.out _ hb17) ?_;clear hK K;(try simp only [gA,gB,gC,Act.put,gD,gE,gF]);have f0:=c17_4.frozen 0;have f1:=c17_4.frozen 1;have f2:=c17_4.frozen 2;have y0:=c17_4.cell (i:=0) (v:=.string ⟨#[]⟩) rfl;have y1:=c17_4.cell (i:=1) (v:=.int .i64 0) rfl;have y2:=c17_4.cell (i:=2) (v:=.int .i64 0) rfl;have yl:=c17_4.lt
      have m18:=((((Mod.refl [d11] v17).setCell (p:=⟨d11,0,none⟩) (by simp) (.string t1)).setCell (p:=⟨d11,1,none⟩) (by simp) (.int .i64 i1)).setCell (p:=⟨d11,2,none⟩) (by simp) (.int .i64 p1));have c18:CBox (((v17.setCell ⟨d11,0,none⟩ (.string t1)).setCell ⟨d11,1,none⟩ (.int .i64 i1)).setCell ⟨d11,2,none⟩ (.int .i64 p1)) d11 151 #[.string t1,.int .i64 i1,.int .i64 p1]:=(((c17_4.set 0 (.string t1)).set 1 (.int .i64 i1)).set 2 (.int .i64 p1));have k18:=c17_5.mod m18 (by simp;omega);have hb18:=hb17.trans (m18.upto hb17.size (by simp;omega))
      refine planT_one rfl (by rfl) (fun K hK => ?_);go_simp;refine hK.out _ _ (SW.out _ hb18) ?_;clear hK K;(try simp only [gA,gB,gC,Act.put,gD,gE,gF]);clear f0 f1 f2 y0 y1 y2 yl m18;generalize (((v17.setCell ⟨d11,0,none⟩ (.string t1)).setCell ⟨d11,1,none⟩ (.int .i64 i1)).setCell ⟨d11,2,none⟩ (.int .i64 p1)) = v18 at *;have f0:=k18.frozen 0;have f1:=k18.frozen 1;have f2:=k18.frozen 2;have y0:=k18.cell (i:=0) (v:=.string ⟨#[]⟩) rfl;have y1:=k18.cell (i:=1) (v:=.int .i64 0) rfl;have y2:=k18.cell (i:=2) (v:=.int .i64 0) rfl
      have yl:=k18.lt;have m19:=((((Mod.refl [d16] v18).setCell (p:=⟨d16,0,none⟩) (by simp) (.string t2)).setCell (p:=⟨d16,1,none⟩) (by simp) (.int .i64 i2)).setCell (p:=⟨d16,2,none⟩) (by simp) (.int .i64 p2));have c19:CBox (((v18.setCell ⟨d16,0,none⟩ (.string t2)).setCell ⟨d16,1,none⟩ (.int .i64 i2)).setCell ⟨d16,2,none⟩ (.int .i64 p2)) d16 151 #[.string t2,.int .i64 i2,.int .i64 p2]:=(((k18.set 0 (.string t2)).set 1 (.int .i64 i2)).set 2 (.int .i64 p2));have k19:=c18.mod m19 (by simp;omega)
      have hb19:=hb18.trans (m19.upto hb18.size (by simp;omega));refine planT_one rfl (by rfl) (fun K hK => ?_);go_simp;refine hK.out _ _ (SW.out _ hb19) ?_;clear hK K;(try simp only [gA,gB,gC,Act.put,gD,gE,gF]);clear f0 f1 f2 y0 y1 y2 yl m19;generalize (((v18.setCell ⟨d16,0,none⟩ (.string t2)).setCell ⟨d16,1,none⟩ (.int .i64 i2)).setCell ⟨d16,2,none⟩ (.int .i64 p2)) = v19 at *;refine planT_done ?_;refine NoPanic.normal ?_
      (try go_wp2)
      go_meet
      case rel => exact ⟨_,_,rfl,rfl,k19,c19,HW.out _ hb19⟩
    ·skip
     have a20:=CBox.new v1 151 #[.string ⟨#[]⟩,.int .i64 0,.int .i64 0];have ge20:=hb1.size;have hb20:=qtrans hb1 (qalloc v1 (.cells #[.string ⟨#[]⟩,.int .i64 0,.int .i64 0] 151));refine planT_one rfl (by rfl) (fun K hK => ?_);go_simp;refine hK.out _ _ (SW.out _ hb20) ?_;clear hK K;(try simp only [gA,gB,gC,Act.put,gD,gE,gF]);generalize v1.alloc (.cells #[.string ⟨#[]⟩,.int .i64 0,.int .i64 0] 151) = v20 at *;generalize v1.heap.size = d20 at *;refine planT_two ?_ ?_
     ·skip
      refine planT_one rfl (by rfl) (fun K hK => ?_);go_simp;refine (HC2.out _ (HW.out _ hb20)).mono ?_;rintro r v21 ⟨rfl,hq21⟩
      (try go_simp)
      have hb21:=qtrans hb20 hq21;have c21_5:=a20.below hq21;refine hK.out _ _ (SW.out _ hb21) ?_;clear hK K;(try simp only [gA,gB,gC,Act.put,gD,gE,gF]);have a22:=CBox.new v21 151 #[.string ⟨#[]⟩,.int .i64 0,.int .i64 0];have ge22:=hb21.size;have c22_5:=c21_5.alloc (.cells #[.string ⟨#[]⟩,.int .i64 0,.int .i64 0] 151);have ne22:=c21_5.lt;have hb22:=qtrans hb21 (qalloc v21 (.cells #[.string ⟨#[]⟩,.int .i64 0,.int .i64 0] 151));refine planT_one rfl (by rfl) (fun K hK => ?_);go_simp
      refine hK.out _ _ (SW.out _ hb22) ?_;clear hK K;(try simp only [gA,gB,gC,Act.put,gD,gE,gF]);generalize v21.alloc (.cells #[.string ⟨#[]⟩,.int .i64 0,.int .i64 0] 151) = v22 at *;generalize v21.heap.size = d22 at *;have f0:=a22.frozen 0;have f1:=a22.frozen 1;have f2:=a22.frozen 2;have y0:=a22.cell (i:=0) (v:=.string ⟨#[]⟩) rfl;have y1:=a22.cell (i:=1) (v:=.int .i64 0) rfl;have y2:=a22.cell (i:=2) (v:=.int .i64 0) rfl;have yl:=a22.lt
      have m23:=((((Mod.refl [d22] v22).setCell (p:=⟨d22,0,none⟩) (by simp) (.string t1)).setCell (p:=⟨d22,1,none⟩) (by simp) (.int .i64 i1)).setCell (p:=⟨d22,2,none⟩) (by simp) (.int .i64 p1));have c23:CBox (((v22.setCell ⟨d22,0,none⟩ (.string t1)).setCell ⟨d22,1,none⟩ (.int .i64 i1)).setCell ⟨d22,2,none⟩ (.int .i64 p1)) d22 151 #[.string t1,.int .i64 i1,.int .i64 p1]:=(((a22.set 0 (.string t1)).set 1 (.int .i64 i1)).set 2 (.int .i64 p1));have k23:=c22_5.mod m23 (by simp;omega);have hb23:=hb22.trans (m23.upto hb22.size (by simp;omega))
      refine planT_one rfl (by rfl) (fun K hK => ?_);go_simp;refine hK.out _ _ (SW.out _ hb23) ?_;clear hK K;(try simp only [gA,gB,gC,Act.put,gD,gE,gF]);clear f0 f1 f2 y0 y1 y2 yl m23;generalize (((v22.setCell ⟨d22,0,none⟩ (.string t1)).setCell ⟨d22,1,none⟩ (.int .i64 i1)).setCell ⟨d22,2,none⟩ (.int .i64 p1)) = v23 at *;have f0:=k23.frozen 0;have f1:=k23.frozen 1;have f2:=k23.frozen 2;have y0:=k23.cell (i:=0) (v:=.string ⟨#[]⟩) rfl;have y1:=k23.cell (i:=1) (v:=.int .i64 0) rfl;have y2:=k23.cell (i:=2) (v:=.int .i64 0) rfl
      have yl:=k23.lt;have m24:=((((Mod.refl [d20] v23).setCell (p:=⟨d20,0,none⟩) (by simp) (.string t2)).setCell (p:=⟨d20,1,none⟩) (by simp) (.int .i64 i2)).setCell (p:=⟨d20,2,none⟩) (by simp) (.int .i64 p2));have c24:CBox (((v23.setCell ⟨d20,0,none⟩ (.string t2)).setCell ⟨d20,1,none⟩ (.int .i64 i2)).setCell ⟨d20,2,none⟩ (.int .i64 p2)) d20 151 #[.string t2,.int .i64 i2,.int .i64 p2]:=(((k23.set 0 (.string t2)).set 1 (.int .i64 i2)).set 2 (.int .i64 p2));have k24:=c23.mod m24 (by simp;omega)
      have hb24:=hb23.trans (m24.upto hb23.size (by simp;omega));refine planT_one rfl (by rfl) (fun K hK => ?_);go_simp;refine hK.out _ _ (SW.out _ hb24) ?_;clear hK K;(try simp only [gA,gB,gC,Act.put,gD,gE,gF]);clear f0 f1 f2 y0 y1 y2 yl m24;generalize (((v23.setCell ⟨d20,0,none⟩ (.string t2)).setCell ⟨d20,1,none⟩ (.int .i64 i2)).setCell ⟨d20,2,none⟩ (.int .i64 p2)) = v24 at *;refine planT_done ?_;refine NoPanic.normal ?_
      (try go_wp2)
      go_meet
      case rel => exact ⟨_,_,rfl,rfl,k24,c24,HW.out _ hb24⟩
     ·skip
      have a25:=CBox.new v20 151 #[.string ⟨#[]⟩,.int .i64 0,.int .i64 0];have ge25:=hb20.size;have c25_5:=a20.alloc (.cells #[.string ⟨#[]⟩,.int .i64 0,.int .i64 0] 151);have ne25:=a20.lt;have hb25:=qtrans hb20 (qalloc v20 (.cells #[.string ⟨#[]⟩,.int .i64 0,.int .i64 0] 151));refine planT_one rfl (by rfl) (fun K hK => ?_);go_simp;refine hK.out _ _ (SW.out _ hb25) ?_;clear hK K;(try simp only [gA,gB,gC,Act.put,gD,gE,gF]);generalize v20.alloc (.cells #[.string ⟨#[]⟩,.int .i64 0,.int .i64 0] 151) = v25 at *;generalize v20.heap.size = d25 at *
      refine planT_one rfl (by rfl) (fun K hK => ?_);go_simp;refine (HC2.out _ (HW.out _ hb25)).mono ?_;rintro r v26 ⟨rfl,hq26⟩
      (try go_simp)
      have hb26:=qtrans hb25 hq26;have c26_5:=c25_5.below hq26;have c26_4:=a25.below hq26;refine hK.out _ _ (SW.out _ hb26) ?_;clear hK K;(try simp only [gA,gB,gC,Act.put,gD,gE,gF]);have f0:=c26_4.frozen 0;have f1:=c26_4.frozen 1;have f2:=c26_4.frozen 2;have y0:=c26_4.cell (i:=0) (v:=.string ⟨#[]⟩) rfl;have y1:=c26_4.cell (i:=1) (v:=.int .i64 0) rfl;have y2:=c26_4.cell (i:=2) (v:=.int .i64 0) rfl;have yl:=c26_4.lt
      have m27:=((((Mod.refl [d25] v26).setCell (p:=⟨d25,0,none⟩) (by simp) (.string t1)).setCell (p:=⟨d25,1,none⟩) (by simp) (.int .i64 i1)).setCell (p:=⟨d25,2,none⟩) (by simp) (.int .i64 p1));have c27:CBox (((v26.setCell ⟨d25,0,none⟩ (.string t1)).setCell ⟨d25,1,none⟩ (.int .i64 i1)).setCell ⟨d25,2,none⟩ (.int .i64 p1)) d25 151 #[.string t1,.int .i64 i1,.int .i64 p1]:=(((c26_4.set 0 (.string t1)).set 1 (.int .i64 i1)).set 2 (.int .i64 p1));have k27:=c26_5.mod m27 (by simp;omega);have hb27:=hb26.trans (m27.upto hb26.size (by simp;omega))
      refine planT_one rfl (by rfl) (fun K hK => ?_);go_simp;refine hK.out _ _ (SW.out _ hb27) ?_;clear hK K;(try simp only [gA,gB,gC,Act.put,gD,gE,gF]);clear f0 f1 f2 y0 y1 y2 yl m27;generalize (((v26.setCell ⟨d25,0,none⟩ (.string t1)).setCell ⟨d25,1,none⟩ (.int .i64 i1)).setCell ⟨d25,2,none⟩ (.int .i64 p1)) = v27 at *;have f0:=k27.frozen 0;have f1:=k27.frozen 1;have f2:=k27.frozen 2;have y0:=k27.cell (i:=0) (v:=.string ⟨#[]⟩) rfl;have y1:=k27.cell (i:=1) (v:=.int .i64 0) rfl;have y2:=k27.cell (i:=2) (v:=.int .i64 0) rfl
      have yl:=k27.lt;have m28:=((((Mod.refl [d20] v27).setCell (p:=⟨d20,0,none⟩) (by simp) (.string t2)).setCell (p:=⟨d20,1,none⟩) (by simp) (.int .i64 i2)).setCell (p:=⟨d20,2,none⟩) (by simp) (.int .i64 p2));have c28:CBox (((v27.setCell ⟨d20,0,none⟩ (.string t2)).setCell ⟨d20,1,none⟩ (.int .i64 i2)).setCell ⟨d20,2,none⟩ (.int .i64 p2)) d20 151 #[.string t2,.int .i64 i2,.int .i64 p2]:=(((k27.set 0 (.string t2)).set 1 (.int .i64 i2)).set 2 (.int .i64 p2));have k28:=c27.mod m28 (by simp;omega)
      have hb28:=hb27.trans (m28.upto hb27.size (by simp;omega));refine planT_one rfl (by rfl) (fun K hK => ?_);go_simp;refine hK.out _ _ (SW.out _ hb28) ?_;clear hK K;(try simp only [gA,gB,gC,Act.put,gD,gE,gF]);clear f0 f1 f2 y0 y1 y2 yl m28;generalize (((v27.setCell ⟨d20,0,none⟩ (.string t2)).setCell ⟨d20,1,none⟩ (.int .i64 i2)).setCell ⟨d20,2,none⟩ (.int .i64 p2)) = v28 at *;refine planT_done ?_;refine NoPanic.normal ?_
      (try go_wp2)
      go_meet
      case rel => exact ⟨_,_,rfl,rfl,k28,c28,HW.out _ hb28⟩
   ·skip
    have a29:=CBox.new v0 151 #[.string ⟨#[]⟩,.int .i64 0,.int .i64 0];have ge29:=hb0.size;have hb29:=qtrans hb0 (qalloc v0 (.cells #[.string ⟨#[]⟩,.int .i64 0,.int .i64 0] 151));refine planT_one rfl (by rfl) (fun K hK => ?_);go_simp;refine hK.out _ _ (SW.out _ hb29) ?_;clear hK K;(try simp only [gA,gB,gC,Act.put,gD,gE,gF]);generalize v0.alloc (.cells #[.string ⟨#[]⟩,.int .i64 0,.int .i64 0] 151) = v29 at *;generalize v0.heap.size = d29 at *;refine planT_two ?_ ?_
    ·skip
     refine planT_one rfl (by rfl) (fun K hK => ?_);go_simp;refine (HC1.out _ (HW.out _ hb29)).mono ?_;rintro r v30 ⟨rfl,hq30⟩
     (try go_simp)
     have hb30:=qtrans hb29 hq30;have c30_4:=a29.below hq30;refine hK.out _ _ (SW.out _ hb30) ?_;clear hK K;(try simp only [gA,gB,gC,Act.put,gD,gE,gF]);refine planT_two ?_ ?_
     ·skip
      refine planT_one rfl (by rfl) (fun K hK => ?_);go_simp;refine (HC2.out _ (HW.out _ hb30)).mono ?_;rintro r v31 ⟨rfl,hq31⟩
      (try go_simp)
      have hb31:=qtrans hb30 hq31;have c31_4:=c30_4.below hq31;refine hK.out _ _ (SW.out _ hb31) ?_;clear hK K;(try simp only [gA,gB,gC,Act.put,gD,gE,gF]);have a32:=CBox.new v31 151 #[.string ⟨#[]⟩,.int .i64 0,.int .i64 0];have ge32:=hb31.size;have c32_4:=c31_4.alloc (.cells #[.string ⟨#[]⟩,.int .i64 0,.int .i64 0] 151);have ne32:=c31_4.lt;have hb32:=qtrans hb31 (qalloc v31 (.cells #[.string ⟨#[]⟩,.int .i64 0,.int .i64 0] 151));refine planT_one rfl (by rfl) (fun K hK => ?_);go_simp
      refine hK.out _ _ (SW.out _ hb32) ?_;clear hK K;(try simp only [gA,gB,gC,Act.put,gD,gE,gF]);generalize v31.alloc (.cells #[.string ⟨#[]⟩,.int .i64 0,.int .i64 0] 151) = v32 at *;generalize v31.heap.size = d32 at *;have f0:=c32_4.frozen 0;have f1:=c32_4.frozen 1;have f2:=c32_4.frozen 2;have y0:=c32_4.cell (i:=0) (v:=.string ⟨#[]⟩) rfl;have y1:=c32_4.cell (i:=1) (v:=.int .i64 0) rfl;have y2:=c32_4.cell (i:=2) (v:=.int .i64 0) rfl;have yl:=c32_4.lt
      have m33:=((((Mod.refl [d29] v32).setCell (p:=⟨d29,0,none⟩) (by simp) (.string t1)).setCell (p:=⟨d29,1,none⟩) (by simp) (.int .i64 i1)).setCell (p:=⟨d29,2,none⟩) (by simp) (.int .i64 p1));have c33:CBox (((v32.setCell ⟨d29,0,none⟩ (.string t1)).setCell ⟨d29,1,none⟩ (.int .i64 i1)).setCell ⟨d29,2,none⟩ (.int .i64 p1)) d29 151 #[.string t1,.int .i64 i1,.int .i64 p1]:=(((c32_4.set 0 (.string t1)).set 1 (.int .i64 i1)).set 2 (.int .i64 p1));have k33:=a32.mod m33 (by simp;omega);have hb33:=hb32.trans (m33.upto hb32.size (by simp;omega))
      refine planT_one rfl (by rfl) (fun K hK => ?_);go_simp;refine hK.out _ _ (SW.out _ hb33) ?_;clear hK K;(try simp only [gA,gB,gC,Act.put,gD,gE,gF]);clear f0 f1 f2 y0 y1 y2 yl m33;generalize (((v32.setCell ⟨d29,0,none⟩ (.string t1)).setCell ⟨d29,1,none⟩ (.int .i64 i1)).setCell ⟨d29,2,none⟩ (.int .i64 p1)) = v33 at *;have f0:=k33.frozen 0;have f1:=k33.frozen 1;have f2:=k33.frozen 2;have y0:=k33.cell (i:=0) (v:=.string ⟨#[]⟩) rfl;have y1:=k33.cell (i:=1) (v:=.int .i64 0) rfl;have y2:=k33.cell (i:=2) (v:=.int .i64 0) rfl
      have yl:=k33.lt;have m34:=((((Mod.refl [d32] v33).setCell (p:=⟨d32,0,none⟩) (by simp) (.string t2)).setCell (p:=⟨d32,1,none⟩) (by simp) (.int .i64 i2)).setCell (p:=⟨d32,2,none⟩) (by simp) (.int .i64 p2));have c34:CBox (((v33.setCell ⟨d32,0,none⟩ (.string t2)).setCell ⟨d32,1,none⟩ (.int .i64 i2)).setCell ⟨d32,2,none⟩ (.int .i64 p2)) d32 151 #[.string t2,.int .i64 i2,.int .i64 p2]:=(((k33.set 0 (.string t2)).set 1 (.int .i64 i2)).set 2 (.int .i64 p2));have k34:=c33.mod m34 (by simp;omega)
      have hb34:=hb33.trans (m34.upto hb33.size (by simp;omega));refine planT_one rfl (by rfl) (fun K hK => ?_);go_simp;refine hK.out _ _ (SW.out _ hb34) ?_;clear hK K;(try simp only [gA,gB,gC,Act.put,gD,gE,gF]);clear f0 f1 f2 y0 y1 y2 yl m34;generalize (((v33.setCell ⟨d32,0,none⟩ (.string t2)).setCell ⟨d32,1,none⟩ (.int .i64 i2)).setCell ⟨d32,2,none⟩ (.int .i64 p2)) = v34 at *;refine planT_done ?_;refine NoPanic.normal ?_
      (try go_wp2)
      go_meet
      case rel => exact ⟨_,_,rfl,rfl,k34,c34,HW.out _ hb34⟩
     ·skip
      have a35:=CBox.new v30 151 #[.string ⟨#[]⟩,.int .i64 0,.int .i64 0];have ge35:=hb30.size;have c35_4:=c30_4.alloc (.cells #[.string ⟨#[]⟩,.int .i64 0,.int .i64 0] 151);have ne35:=c30_4.lt;have hb35:=qtrans hb30 (qalloc v30 (.cells #[.string ⟨#[]⟩,.int .i64 0,.int .i64 0] 151));refine planT_one rfl (by rfl) (fun K hK => ?_);go_simp;refine hK.out _ _ (SW.out _ hb35) ?_;clear hK K;(try simp only [gA,gB,gC,Act.put,gD,gE,gF]);generalize v30.alloc (.cells #[.string ⟨#[]⟩,.int .i64 0,.int .i64 0] 151) = v35 at *
      generalize v30.heap.size = d35 at *;refine planT_one rfl (by rfl) (fun K hK => ?_);go_simp;refine (HC2.out _ (HW.out _ hb35)).mono ?_;rintro r v36 ⟨rfl,hq36⟩
      (try go_simp)
      have hb36:=qtrans hb35 hq36;have c36_4:=c35_4.below hq36;have c36_5:=a35.below hq36;refine hK.out _ _ (SW.out _ hb36) ?_;clear hK K;(try simp only [gA,gB,gC,Act.put,gD,gE,gF]);have f0:=c36_4.frozen 0;have f1:=c36_4.frozen 1;have f2:=c36_4.frozen 2;have y0:=c36_4.cell (i:=0) (v:=.string ⟨#[]⟩) rfl;have y1:=c36_4.cell (i:=1) (v:=.int .i64 0) rfl;have y2:=c36_4.cell (i:=2) (v:=.int .i64 0) rfl;have yl:=c36_4.lt
      have m37:=((((Mod.refl [d29] v36).setCell (p:=⟨d29,0,none⟩) (by simp) (.string t1)).setCell (p:=⟨d29,1,none⟩) (by simp) (.int .i64 i1)).setCell (p:=⟨d29,2,none⟩) (by simp) (.int .i64 p1));have c37:CBox (((v36.setCell ⟨d29,0,none⟩ (.string t1)).setCell ⟨d29,1,none⟩ (.int .i64 i1)).setCell ⟨d29,2,none⟩ (.int .i64 p1)) d29 151 #[.string t1,.int .i64 i1,.int .i64 p1]:=(((c36_4.set 0 (.string t1)).set 1 (.int .i64 i1)).set 2 (.int .i64 p1));have k37:=c36_5.mod m37 (by simp;omega);have hb37:=hb36.trans (m37.upto hb36.size (by simp;omega))
      refine planT_one rfl (by rfl) (fun K hK => ?_);go_simp;refine hK.out _ _ (SW.out _ hb37) ?_;clear hK K;(try simp only [gA,gB,gC,Act.put,gD,gE,gF]);clear f0 f1 f2 y0 y1 y2 yl m37;generalize (((v36.setCell ⟨d29,0,none⟩ (.string t1)).setCell ⟨d29,1,none⟩ (.int .i64 i1)).setCell ⟨d29,2,none⟩ (.int .i64 p1)) = v37 at *;have f0:=k37.frozen 0;have f1:=k37.frozen 1;have f2:=k37.frozen 2;have y0:=k37.cell (i:=0) (v:=.string ⟨#[]⟩) rfl;have y1:=k37.cell (i:=1) (v:=.int .i64 0) rfl;have y2:=k37.cell (i:=2) (v:=.int .i64 0) rfl
      have yl:=k37.lt;have m38:=((((Mod.refl [d35] v37).setCell (p:=⟨d35,0,none⟩) (by simp) (.string t2)).setCell (p:=⟨d35,1,none⟩) (by simp) (.int .i64 i2)).setCell (p:=⟨d35,2,none⟩) (by simp) (.int .i64 p2));have c38:CBox (((v37.setCell ⟨d35,0,none⟩ (.string t2)).setCell ⟨d35,1,none⟩ (.int .i64 i2)).setCell ⟨d35,2,none⟩ (.int .i64 p2)) d35 151 #[.string t2,.int .i64 i2,.int .i64 p2]:=(((k37.set 0 (.string t2)).set 1 (.int .i64 i2)).set 2 (.int .i64 p2));have k38:=c37.mod m38 (by simp;omega)
      have hb38:=hb37.trans (m38.upto hb37.size (by simp;omega));refine planT_one rfl (by rfl) (fun K hK => ?_);go_simp;refine hK.out _ _ (SW.out _ hb38) ?_;clear hK K;(try simp only [gA,gB,gC,Act.put,gD,gE,gF]);clear f0 f1 f2 y0 y1 y2 yl m38;generalize (((v37.setCell ⟨d35,0,none⟩ (.string t2)).setCell ⟨d35,1,none⟩ (.int .i64 i2)).setCell ⟨d35,2,none⟩ (.int .i64 p2)) = v38 at *;refine planT_done ?_;refine NoPanic.normal ?_
      (try go_wp2)
      go_meet
      case rel => exact ⟨_,_,rfl,rfl,k38,c38,HW.out _ hb38⟩
    ·skip
     have a39:=CBox.new v29 151 #[.string ⟨#[]⟩,.int .i64 0,.int .i64 0];have ge39:=hb29.size;have c39_4:=a29.alloc (.cells #[.string ⟨#[]⟩,.int .i64 0,.int .i64 0] 151);have ne39:=a29.lt;have hb39:=qtrans hb29 (qalloc v29 (.cells #[.string ⟨#[]⟩,.int .i64 0,.int .i64 0] 151));refine planT_one rfl (by rfl) (fun K hK => ?_);go_simp;refine hK.out _ _ (SW.out _ hb39) ?_;clear hK K;(try simp only [gA,gB,gC,Act.put,gD,gE,gF]);generalize v29.alloc (.cells #[.string ⟨#[]⟩,.int .i64 0,.int .i64 0] 151) = v39 at *;generalize v29.heap.size = d39 at *
     refine planT_one rfl (by rfl) (fun K hK => ?_);go_simp;refine (HC1.out _ (HW.out _ hb39)).mono ?_;rintro r v40 ⟨rfl,hq40⟩
     (try go_simp)
     have hb40:=qtrans hb39 hq40;have c40_4:=c39_4.below hq40;have c40_5:=a39.below hq40;refine hK.out _ _ (SW.out _ hb40) ?_;clear hK K;(try simp only [gA,gB,gC,Act.put,gD,gE,gF]);refine planT_one rfl (by rfl) (fun K hK => ?_);go_simp;refine (HC2.out _ (HW.out _ hb40)).mono ?_;rintro r v41 ⟨rfl,hq41⟩
     (try go_simp)
     have hb41:=qtrans hb40 hq41;have c41_4:=c40_4.below hq41;have c41_5:=c40_5.below hq41;refine hK.out _ _ (SW.out _ hb41) ?_;clear hK K;(try simp only [gA,gB,gC,Act.put,gD,gE,gF]);have f0:=c41_4.frozen 0;have f1:=c41_4.frozen 1;have f2:=c41_4.frozen 2;have y0:=c41_4.cell (i:=0) (v:=.string ⟨#[]⟩) rfl;have y1:=c41_4.cell (i:=1) (v:=.int .i64 0) rfl;have y2:=c41_4.cell (i:=2) (v:=.int .i64 0) rfl;have yl:=c41_4.lt
     have m42:=((((Mod.refl [d29] v41).setCell (p:=⟨d29,0,none⟩) (by simp) (.string t1)).setCell (p:=⟨d29,1,none⟩) (by simp) (.int .i64 i1)).setCell (p:=⟨d29,2,none⟩) (by simp) (.int .i64 p1));have c42:CBox (((v41.setCell ⟨d29,0,none⟩ (.string t1)).setCell ⟨d29,1,none⟩ (.int .i64 i1)).setCell ⟨d29,2,none⟩ (.int .i64 p1)) d29 151 #[.string t1,.int .i64 i1,.int .i64 p1]:=(((c41_4.set 0 (.string t1)).set 1 (.int .i64 i1)).set 2 (.int .i64 p1));have k42:=c41_5.mod m42 (by simp;omega);have hb42:=hb41.trans (m42.upto hb41.size (by simp;omega))
     refine planT_one rfl (by rfl) (fun K hK => ?_);go_simp;refine hK.out _ _ (SW.out _ hb42) ?_;clear hK K;(try simp only [gA,gB,gC,Act.put,gD,gE,gF]);clear f0 f1 f2 y0 y1 y2 yl m42;generalize (((v41.setCell ⟨d29,0,none⟩ (.string t1)).setCell ⟨d29,1,none⟩ (.int .i64 i1)).setCell ⟨d29,2,none⟩ (.int .i64 p1)) = v42 at *;have f0:=k42.frozen 0;have f1:=k42.frozen 1;have f2:=k42.frozen 2;have y0:=k42.cell (i:=0) (v:=.string ⟨#[]⟩) rfl;have y1:=k42.cell (i:=1) (v:=.int .i64 0) rfl;have y2:=k42.cell (i:=2) (v:=.int .i64 0) rfl
     have yl:=k42.lt;have m43:=((((Mod.refl [d39] v42).setCell (p:=⟨d39,0,none⟩) (by simp) (.string t2)).setCell (p:=⟨d39,1,none⟩) (by simp) (.int .i64 i2)).setCell (p:=⟨d39,2,none⟩) (by simp) (.int .i64 p2));have c43:CBox (((v42.setCell ⟨d39,0,none⟩ (.string t2)).setCell ⟨d39,1,none⟩ (.int .i64 i2)).setCell ⟨d39,2,none⟩ (.int .i64 p2)) d39 151 #[.string t2,.int .i64 i2,.int .i64 p2]:=(((k42.set 0 (.string t2)).set 1 (.int .i64 i2)).set 2 (.int .i64 p2));have k43:=c42.mod m43 (by simp;omega)
     have hb43:=hb42.trans (m43.upto hb42.size (by simp;omega));refine planT_one rfl (by rfl) (fun K hK => ?_);go_simp;refine hK.out _ _ (SW.out _ hb43) ?_;clear hK K;(try simp only [gA,gB,gC,Act.put,gD,gE,gF]);clear f0 f1 f2 y0 y1 y2 yl m43;generalize (((v42.setCell ⟨d39,0,none⟩ (.string t2)).setCell ⟨d39,1,none⟩ (.int .i64 i2)).setCell ⟨d39,2,none⟩ (.int .i64 p2)) = v43 at *;refine planT_done ?_;refine NoPanic.normal ?_
     (try go_wp2)
     go_meet
     case rel => exact ⟨_,_,rfl,rfl,k43,c43,HW.out _ hb43⟩
   ·skip
    have a44:=CBox.new v0 151 #[.string ⟨#[]⟩,.int .i64 0,.int .i64 0];have ge44:=hb0.size;have hb44:=qtrans hb0 (qalloc v0 (.cells #[.string ⟨#[]⟩,.int .i64 0,.int .i64 0] 151));refine planT_one rfl (by rfl) (fun K hK => ?_);go_simp;refine hK.out _ _ (SW.out _ hb44) ?_;clear hK K;(try simp only [gA,gB,gC,Act.put,gD,gE,gF]);generalize v0.alloc (.cells #[.string ⟨#[]⟩,.int .i64 0,.int .i64 0] 151) = v44 at *;generalize v0.heap.size = d44 at *;refine planT_two ?_ ?_
    ·skip
     refine planT_one rfl (by rfl) (fun K hK => ?_);go_simp;refine (HC1.out _ (HW.out _ hb44)).mono ?_;rintro r v45 ⟨rfl,hq45⟩
     (try go_simp)
     have hb45:=qtrans hb44 hq45;have c45_5:=a44.below hq45;refine hK.out _ _ (SW.out _ hb45) ?_;clear hK K;(try simp only [gA,gB,gC,Act.put,gD,gE,gF]);refine planT_two ?_ ?_
     ·skip
      refine planT_one rfl (by rfl) (fun K hK => ?_);go_simp;refine (HC2.out _ (HW.out _ hb45)).mono ?_;rintro r v46 ⟨rfl,hq46⟩
      (try go_simp)
      have hb46:=qtrans hb45 hq46;have c46_5:=c45_5.below hq46;refine hK.out _ _ (SW.out _ hb46) ?_;clear hK K;(try simp only [gA,gB,gC,Act.put,gD,gE,gF]);have a47:=CBox.new v46 151 #[.string ⟨#[]⟩,.int .i64 0,.int .i64 0];have ge47:=hb46.size;have c47_5:=c46_5.alloc (.cells #[.string ⟨#[]⟩,.int .i64 0,.int .i64 0] 151);have ne47:=c46_5.lt;have hb47:=qtrans hb46 (qalloc v46 (.cells #[.string ⟨#[]⟩,.int .i64 0,.int .i64 0] 151));refine planT_one rfl (by rfl) (fun K hK => ?_);go_simp
      refine hK.out _ _ (SW.out _ hb47) ?_;clear hK K;(try simp only [gA,gB,gC,Act.put,gD,gE,gF]);generalize v46.alloc (.cells #[.string ⟨#[]⟩,.int .i64 0,.int .i64 0] 151) = v47 at *;generalize v46.heap.size = d47 at *;have f0:=a47.frozen 0;have f1:=a47.frozen 1;have f2:=a47.frozen 2;have y0:=a47.cell (i:=0) (v:=.string ⟨#[]⟩) rfl;have y1:=a47.cell (i:=1) (v:=.int .i64 0) rfl;have y2:=a47.cell (i:=2) (v:=.int .i64 0) rfl;have yl:=a47.lt
      have m48:=((((Mod.refl [d47] v47).setCell (p:=⟨d47,0,none⟩) (by simp) (.string t1)).setCell (p:=⟨d47,1,none⟩) (by simp) (.int .i64 i1)).setCell (p:=⟨d47,2,none⟩) (by simp) (.int .i64 p1));have c48:CBox (((v47.setCell ⟨d47,0,none⟩ (.string t1)).setCell ⟨d47,1,none⟩ (.int .i64 i1)).setCell ⟨d47,2,none⟩ (.int .i64 p1)) d47 151 #[.string t1,.int .i64 i1,.int .i64 p1]:=(((a47.set 0 (.string t1)).set 1 (.int .i64 i1)).set 2 (.int .i64 p1));have k48:=c47_5.mod m48 (by simp;omega);have hb48:=hb47.trans (m48.upto hb47.size (by simp;omega))
      refine planT_one rfl (by rfl) (fun K hK => ?_);go_simp;refine hK.out _ _ (SW.out _ hb48) ?_;clear hK K;(try simp only [gA,gB,gC,Act.put,gD,gE,gF]);clear f0 f1 f2 y0 y1 y2 yl m48;generalize (((v47.setCell ⟨d47,0,none⟩ (.string t1)).setCell ⟨d47,1,none⟩ (.int .i64 i1)).setCell ⟨d47,2,none⟩ (.int .i64 p1)) = v48 at *;have f0:=k48.frozen 0;have f1:=k48.frozen 1;have f2:=k48.frozen 2;have y0:=k48.cell (i:=0) (v:=.string ⟨#[]⟩) rfl;have y1:=k48.cell (i:=1) (v:=.int .i64 0) rfl;have y2:=k48.cell (i:=2) (v:=.int .i64 0) rfl
      have yl:=k48.lt;have m49:=((((Mod.refl [d44] v48).setCell (p:=⟨d44,0,none⟩) (by simp) (.string t2)).setCell (p:=⟨d44,1,none⟩) (by simp) (.int .i64 i2)).setCell (p:=⟨d44,2,none⟩) (by simp) (.int .i64 p2));have c49:CBox (((v48.setCell ⟨d44,0,none⟩ (.string t2)).setCell ⟨d44,1,none⟩ (.int .i64 i2)).setCell ⟨d44,2,none⟩ (.int .i64 p2)) d44 151 #[.string t2,.int .i64 i2,.int .i64 p2]:=(((k48.set 0 (.string t2)).set 1 (.int .i64 i2)).set 2 (.int .i64 p2));have k49:=c48.mod m49 (by simp;omega)
      have hb49:=hb48.trans (m49.upto hb48.size (by simp;omega));refine planT_one rfl (by rfl) (fun K hK => ?_);go_simp;refine hK.out _ _ (SW.out _ hb49) ?_;clear hK K;(try simp only [gA,gB,gC,Act.put,gD,gE,gF]);clear f0 f1 f2 y0 y1 y2 yl m49;generalize (((v48.setCell ⟨d44,0,none⟩ (.string t2)).setCell ⟨d44,1,none⟩ (.int .i64 i2)).setCell ⟨d44,2,none⟩ (.int .i64 p2)) = v49 at *;refine planT_done ?_;refine NoPanic.normal ?_
      (try go_wp2)
      go_meet
      case rel => exact ⟨_,_,rfl,rfl,k49,c49,HW.out _ hb49⟩
     ·skip
      have a50:=CBox.new v45 151 #[.string ⟨#[]⟩,.int .i64 0,.int .i64 0];have ge50:=hb45.size;have c50_5:=c45_5.alloc (.cells #[.string ⟨#[]⟩,.int .i64 0,.int .i64 0] 151);have ne50:=c45_5.lt;have hb50:=qtrans hb45 (qalloc v45 (.cells #[.string ⟨#[]⟩,.int .i64 0,.int .i64 0] 151));refine planT_one rfl (by rfl) (fun K hK => ?_);go_simp;refine hK.out _ _ (SW.out _ hb50) ?_;clear hK K;(try simp only [gA,gB,gC,Act.put,gD,gE,gF]);generalize v45.alloc (.cells #[.string ⟨#[]⟩,.int .i64 0,.int .i64 0] 151) = v50 at *
      generalize v45.heap.size = d50 at *;refine planT_one rfl (by rfl) (fun K hK => ?_);go_simp;refine (HC2.out _ (HW.out _ hb50)).mono ?_;rintro r v51 ⟨rfl,hq51⟩
      (try go_simp)
      have hb51:=qtrans hb50 hq51;have c51_5:=c50_5.below hq51;have c51_4:=a50.below hq51;refine hK.out _ _ (SW.out _ hb51) ?_;clear hK K;(try simp only [gA,gB,gC,Act.put,gD,gE,gF]);have f0:=c51_4.frozen 0;have f1:=c51_4.frozen 1;have f2:=c51_4.frozen 2;have y0:=c51_4.cell (i:=0) (v:=.string ⟨#[]⟩) rfl;have y1:=c51_4.cell (i:=1) (v:=.int .i64 0) rfl;have y2:=c51_4.cell (i:=2) (v:=.int .i64 0) rfl;have yl:=c51_4.lt
      have m52:=((((Mod.refl [d50] v51).setCell (p:=⟨d50,0,none⟩) (by simp) (.string t1)).setCell (p:=⟨d50,1,none⟩) (by simp) (.int .i64 i1)).setCell (p:=⟨d50,2,none⟩) (by simp) (.int .i64 p1));have c52:CBox (((v51.setCell ⟨d50,0,none⟩ (.string t1)).setCell ⟨d50,1,none⟩ (.int .i64 i1)).setCell ⟨d50,2,none⟩ (.int .i64 p1)) d50 151 #[.string t1,.int .i64 i1,.int .i64 p1]:=(((c51_4.set 0 (.string t1)).set 1 (.int .i64 i1)).set 2 (.int .i64 p1));have k52:=c51_5.mod m52 (by simp;omega);have hb52:=hb51.trans (m52.upto hb51.size (by simp;omega))
      refine planT_one rfl (by rfl) (fun K hK => ?_);go_simp;refine hK.out _ _ (SW.out _ hb52) ?_;clear hK K;(try simp only [gA,gB,gC,Act.put,gD,gE,gF]);clear f0 f1 f2 y0 y1 y2 yl m52;generalize (((v51.setCell ⟨d50,0,none⟩ (.string t1)).setCell ⟨d50,1,none⟩ (.int .i64 i1)).setCell ⟨d50,2,none⟩ (.int .i64 p1)) = v52 at *;have f0:=k52.frozen 0;have f1:=k52.frozen 1;have f2:=k52.frozen 2;have y0:=k52.cell (i:=0) (v:=.string ⟨#[]⟩) rfl;have y1:=k52.cell (i:=1) (v:=.int .i64 0) rfl;have y2:=k52.cell (i:=2) (v:=.int .i64 0) rfl
      have yl:=k52.lt;have m53:=((((Mod.refl [d44] v52).setCell (p:=⟨d44,0,none⟩) (by simp) (.string t2)).setCell (p:=⟨d44,1,none⟩) (by simp) (.int .i64 i2)).setCell (p:=⟨d44,2,none⟩) (by simp) (.int .i64 p2));have c53:CBox (((v52.setCell ⟨d44,0,none⟩ (.string t2)).setCell ⟨d44,1,none⟩ (.int .i64 i2)).setCell ⟨d44,2,none⟩ (.int .i64 p2)) d44 151 #[.string t2,.int .i64 i2,.int .i64 p2]:=(((k52.set 0 (.string t2)).set 1 (.int .i64 i2)).set 2 (.int .i64 p2));have k53:=c52.mod m53 (by simp;omega)
      have hb53:=hb52.trans (m53.upto hb52.size (by simp;omega));refine planT_one rfl (by rfl) (fun K hK => ?_);go_simp;refine hK.out _ _ (SW.out _ hb53) ?_;clear hK K;(try simp only [gA,gB,gC,Act.put,gD,gE,gF]);clear f0 f1 f2 y0 y1 y2 yl m53;generalize (((v52.setCell ⟨d44,0,none⟩ (.string t2)).setCell ⟨d44,1,none⟩ (.int .i64 i2)).setCell ⟨d44,2,none⟩ (.int .i64 p2)) = v53 at *;refine planT_done ?_;refine NoPanic.normal ?_
      (try go_wp2)
      go_meet
      case rel => exact ⟨_,_,rfl,rfl,k53,c53,HW.out _ hb53⟩
    ·skip
     have a54:=CBox.new v44 151 #[.string ⟨#[]⟩,.int .i64 0,.int .i64 0];have ge54:=hb44.size;have c54_5:=a44.alloc (.cells #[.string ⟨#[]⟩,.int .i64 0,.int .i64 0] 151);have ne54:=a44.lt;have hb54:=qtrans hb44 (qalloc v44 (.cells #[.string ⟨#[]⟩,.int .i64 0,.int .i64 0] 151));refine planT_one rfl (by rfl) (fun K hK => ?_);go_simp;refine hK.out _ _ (SW.out _ hb54) ?_;clear hK K;(try simp only [gA,gB,gC,Act.put,gD,gE,gF]);generalize v44.alloc (.cells #[.string ⟨#[]⟩,.int .i64 0,.int .i64 0] 151) = v54 at *;generalize v44.heap.size = d54 at *
     refine planT_one rfl (by rfl) (fun K hK => ?_);go_simp;refine (HC1.out _ (HW.out _ hb54)).mono ?_;rintro r v55 ⟨rfl,hq55⟩
     (try go_simp)
     have hb55:=qtrans hb54 hq55;have c55_5:=c54_5.below hq55;have c55_4:=a54.below hq55;refine hK.out _ _ (SW.out _ hb55) ?_;clear hK K;(try simp only [gA,gB,gC,Act.put,gD,gE,gF]);refine planT_one rfl (by rfl) (fun K hK => ?_);go_simp;refine (HC2.out _ (HW.out _ hb55)).mono ?_;rintro r v56 ⟨rfl,hq56⟩
     (try go_simp)
     have hb56:=qtrans hb55 hq56;have c56_5:=c55_5.below hq56;have c56_4:=c55_4.below hq56;refine hK.out _ _ (SW.out _ hb56) ?_;clear hK K;(try simp only [gA,gB,gC,Act.put,gD,gE,gF]);have f0:=c56_4.frozen 0;have f1:=c56_4.frozen 1;have f2:=c56_4.frozen 2;have y0:=c56_4.cell (i:=0) (v:=.string ⟨#[]⟩) rfl;have y1:=c56_4.cell (i:=1) (v:=.int .i64 0) rfl;have y2:=c56_4.cell (i:=2) (v:=.int .i64 0) rfl;have yl:=c56_4.lt
     have m57:=((((Mod.refl [d54] v56).setCell (p:=⟨d54,0,none⟩) (by simp) (.string t1)).setCell (p:=⟨d54,1,none⟩) (by simp) (.int .i64 i1)).setCell (p:=⟨d54,2,none⟩) (by simp) (.int .i64 p1));have c57:CBox (((v56.setCell ⟨d54,0,none⟩ (.string t1)).setCell ⟨d54,1,none⟩ (.int .i64 i1)).setCell ⟨d54,2,none⟩ (.int .i64 p1)) d54 151 #[.string t1,.int .i64 i1,.int .i64 p1]:=(((c56_4.set 0 (.string t1)).set 1 (.int .i64 i1)).set 2 (.int .i64 p1));have k57:=c56_5.mod m57 (by simp;omega);have hb57:=hb56.trans (m57.upto hb56.size (by simp;omega))
     refine planT_one rfl (by rfl) (fun K hK => ?_);go_simp;refine hK.out _ _ (SW.out _ hb57) ?_;clear hK K;(try simp only [gA,gB,gC,Act.put,gD,gE,gF]);clear f0 f1 f2 y0 y1 y2 yl m57;generalize (((v56.setCell ⟨d54,0,none⟩ (.string t1)).setCell ⟨d54,1,none⟩ (.int .i64 i1)).setCell ⟨d54,2,none⟩ (.int .i64 p1)) = v57 at *;have f0:=k57.frozen 0;have f1:=k57.frozen 1;have f2:=k57.frozen 2;have y0:=k57.cell (i:=0) (v:=.string ⟨#[]⟩) rfl;have y1:=k57.cell (i:=1) (v:=.int .i64 0) rfl;have y2:=k57.cell (i:=2) (v:=.int .i64 0) rfl
     have yl:=k57.lt;have m58:=((((Mod.refl [d44] v57).setCell (p:=⟨d44,0,none⟩) (by simp) (.string t2)).setCell (p:=⟨d44,1,none⟩) (by simp) (.int .i64 i2)).setCell (p:=⟨d44,2,none⟩) (by simp) (.int .i64 p2));have c58:CBox (((v57.setCell ⟨d44,0,none⟩ (.string t2)).setCell ⟨d44,1,none⟩ (.int .i64 i2)).setCell ⟨d44,2,none⟩ (.int .i64 p2)) d44 151 #[.string t2,.int .i64 i2,.int .i64 p2]:=(((k57.set 0 (.string t2)).set 1 (.int .i64 i2)).set 2 (.int .i64 p2));have k58:=c57.mod m58 (by simp;omega)
     have hb58:=hb57.trans (m58.upto hb57.size (by simp;omega));refine planT_one rfl (by rfl) (fun K hK => ?_);go_simp;refine hK.out _ _ (SW.out _ hb58) ?_;clear hK K;(try simp only [gA,gB,gC,Act.put,gD,gE,gF]);clear f0 f1 f2 y0 y1 y2 yl m58;generalize (((v57.setCell ⟨d44,0,none⟩ (.string t2)).setCell ⟨d44,1,none⟩ (.int .i64 i2)).setCell ⟨d44,2,none⟩ (.int .i64 p2)) = v58 at *;refine planT_done ?_;refine NoPanic.normal ?_
     (try go_wp2)
     go_meet
     case rel => exact ⟨_,_,rfl,rfl,k58,c58,HW.out _ hb58⟩
  case rest =>
  obtain ⟨D1,D2,rfl,rfl,c1,c2,hb⟩:=hcut;clear HC1 HC2;generalize wc = w1 at *;have x0:=c1.cell (i:=0) (v:=.string t1) rfl;have x1:=c1.cell (i:=1) (v:=.int .i64 i1) rfl;have x2:=c1.cell (i:=2) (v:=.int .i64 p1) rfl;have y0:=c2.cell (i:=0) (v:=.string t2) rfl;have y1:=c2.cell (i:=1) (v:=.int .i64 i2) rfl;have y2:=c2.cell (i:=2) (v:=.int .i64 p2) rfl;have l1:=c1.lt;have l2:=c2.lt;have hb2:=qtrans hb (qalloc w1 (.cells #[.string ⟨#[]⟩,.int .i64 0,.int .i64 0] 151));generalize zeroC e = z1 at *;generalize zeroC f = z2 at *
  generalize sameC e f = z3 at *;have HQ:Hid ((i1 != i2) = !(i1 == i2)∧(p1 != 0) = !(p1 == 0)∧(p2 != 0) = !(p2 == 0)∧eqS t1 t2 = (t1.toList == t2.toList)):=⟨rfl,rfl,rfl,rfl⟩;obtain ⟨r1,r2,r3,r4,e1,e2,e3,e4⟩:∃ r1 r2 r3 r4,(i1 == i2) = r1∧(p1 == 0) = r2∧(p2 == 0) = r3∧(t1.toList == t2.toList) = r4:=⟨_,_,_,_,rfl,rfl,rfl,rfl⟩;obtain ⟨q1,q2,q3,q4⟩:=HQ.out;rw [q4,e4] at HP;rw [q1,q2,q3,e1,e2,e3] at HP;rw [e1] at q1;rw [e2] at q2;rw [e3] at q3;clear q4 HQ e1 e2 e3;have H1:=lH HZ1.out.symm;have H2:=lH HZ2.out.symm
  have H3:=lH HZ3.out.symm;have E1:∀ w,(binOp .eql 151 (.agg #[.string t1,.int .i64 i1,.int .i64 p1]) (.agg #[.string ⟨#[]⟩,.int .i64 0,.int .i64 0])).run Tryz.prog w = .ok (.bool z1) w:=fun w => by rw [eql_conc,H1.out]
  have E2:∀ w,(binOp .eql 151 (.agg #[.string t2,.int .i64 i2,.int .i64 p2]) (.agg #[.string ⟨#[]⟩,.int .i64 0,.int .i64 0])).run Tryz.prog w = .ok (.bool z2) w:=fun w => by rw [eql_conc,H2.out]
  have E3:∀ w,(binOp .eql 151 (.agg #[.string t1,.int .i64 i1,.int .i64 p1]) (.agg #[.string t2,.int .i64 i2,.int .i64 p2])).run Tryz.prog w = .ok (.bool z3) w:=fun w => by rw [eql_conc,H3.out]
  clear HZ1 HZ2 HZ3 H1 H2 H3;go_upto_region 5 with (fail)
  trace_state
  go_cut [30] from 18 to 50 (fun v wx => v = .bool (z1 || z2 || z3)∧wx = w1.alloc (.cells #[.string ⟨#[]⟩,.int .i64 0,.int .i64 0] 151))
  case first =>
   cases z1 with
   | true => go_wp2;go_meet;case rel => exact ⟨rfl,rfl⟩
   | false =>
    cases z2 with
    | true => go_wp2;go_meet;case rel => exact ⟨rfl,rfl⟩
    | false => go_wp2;go_meet;case rel => exact ⟨by cases z3 <;> rfl,rfl⟩
  case rest =>
  obtain ⟨rfl,rfl⟩:=hcut
  cases hz:(z1 || z2 || z3) with
  | true =>
   rw [hz,if_pos rfl] at HP;go_wp2;go_ret;exact ⟨ret_bool HP.out.symm,hb2⟩
  | false =>
   rw [hz,if_neg (by simp)] at HP;clear hz E1 E2 E3
   cases r1 with
   | false =>
    go_wp2;go_ret;exact ⟨ret_bool (by rw [HP.out];rfl),hb2⟩
   | true =>
    cases r4 with
    | false =>
     go_wp2;go_ret;exact ⟨ret_bool (by rw [HP.out];rfl),hb2⟩
    | true =>
     cases r2 with
     | true =>
      go_wp2;go_ret;exact ⟨ret_bool (by rw [HP.out];rfl),hb2⟩
     | false =>
      go_wp2;go_ret;exact ⟨ret_bool (by rw [HP.out];cases r3 <;> rfl),hb2⟩
end Go.Proofs.YtdpnfkjafhbndaaGreatDoor

