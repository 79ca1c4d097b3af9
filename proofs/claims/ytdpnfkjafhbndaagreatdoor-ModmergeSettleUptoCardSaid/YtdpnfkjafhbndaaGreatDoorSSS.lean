/- The reference's Conflicts and Clean (chapter 33). -/
import Derived.Test.YtdpnfkjafhbndaaGreatDoorSSK
import Derived.Test.YtdpnfkjafhbndaaGreatDoorSXG
namespace Go.Proofs.YtdpnfkjafhbndaaGreatDoor
open Go.RowKit Go.Shelf
attribute [local go_sem] Oper.semAt_some
attribute [local irreducible] Go.wpStill
structure ConfR (w:World) (m:OMod) (au:Option Addr) (cu:Nat) (ad:Option Addr) (cd:Nat) (v:Value) (L:List OSpot) (wr:World):Prop where
  own:OwnT wr [] (w.heap.size + 1) 54 4 spotT v L
  box:CBox wr w.heap.size 52 #[.string m.label,.slice au m.uses.length cu,.slice ad m.decls.length cd]
  bel:Below w.heap.size w wr
structure ConfRD (w:World) (m:OMod) (au:Option Addr) (cu:Nat) (ad:Option Addr) (cd:Nat) (D:Nat) (A:Array Value) (v:Value) (L:List OSpot) (wr:World):Prop extends ConfR w m au cu ad cd v L wr where
 dbox:CBox wr D 69 A
 dne:∀ b,v.ownBlock = some b→b≠D
section
variable {w:World} {m:OMod} {au:Option Addr} {cu:Nat} {ad:Option Addr} {cd D:Nat} {A:Array Value} {v:Value} {L:List OSpot} {wr w':World}
theorem ConfR.below (h:ConfR w m au cu ad cd v L wr) (k:Bw wr w'):ConfR w m au cu ad cd v L w':=⟨h.own.below k,h.box.below k,h.bel.trans (k.mono h.bel.size)⟩
theorem ConfRD.below (h:ConfRD w m au cu ad cd D A v L wr) (k:Bw wr w'):ConfRD w m au cu ad cd D A v L w':={ h.toConfR.below k with dbox:=h.dbox.below k,dne:=h.dne }
theorem ConfR.open (h:ConfR w m au cu ad cd v L wr) (A:Array Value):ConfRD w m au cu ad cd wr.heap.size A v L (wr.alloc (.cells A 69)):=
 { h.below (qalloc wr _) with dbox:=CBox.new _ _ _,dne:=fun _ hb => Nat.ne_of_lt (h.own.lt hb) }
theorem wpList_spotR {ops:Array Oper} {rest:List Oper} {o:Oper} {a:Act} {Q:Exit→Act→World→Prop} (hgd:o.guard = none) (s x:Operand)
  (ho:o.op = .call { callee:=.builtin .append,args:=#[s,x],argTypes:=#[59,59] }) (hs:a.eval s = v) (sp:OSpot) (hx:a.eval x = .slice (some ⟨wr.heap.size,0,none⟩) 1 1) (h:ConfRD w m au cu ad cd D A v L wr) (hL:L.length≤1000000)
  (K:∀ v' w',ConfRD w m au cu ad cd D A v' (L ++ [sp]) w'→(∃ a c,v' = .slice a (L ++ [sp]).length c)→wpList Tryz.prog ops Q rest (a.put o.dst v') w'):wpList Tryz.prog ops Q (o :: rest) a (wr.alloc (.cells (spotA sp) 54)):=by
 have hal:=qalloc wr (.cells (spotA sp) 54);have h2:=h.below hal;have hb1:=h.bel.size;have hb2:=hal.size;have hlt:=h.box.lt;refine wpList_spotO hgd s x ho hs h2.own hx (CBox.new wr 54 (spotA sp)) hL (by omega) ?_;intro v' w' ho' hm' hv' hb';have hge:∀ b,v.ownBlock = some b→w.heap.size + 1≤b:=fun b hb => h.own.ge hb;have hge':∀ b,b∈v.ownBlock.toList→w.heap.size + 1≤b:=fun b hb => hge b (by simpa using hb)
 refine K v' w' { own:=ho',box:=h2.box.mod hm' (fun hk => by have:=hge' _ hk;omega),bel:=h2.bel.trans (hm'.upto h2.bel.size (fun k hk => by have:=hge' k hk;omega)),dbox:=h2.dbox.mod hm' (fun hk => h.dne D (by simpa using hk) rfl),dne:=fun b hb => ?_ } hv'
 rcases hb' b hb with e | e
 ·exact h.dne b e
 ·have hD:=h.dbox.lt
  omega
end
theorem confR_fin {w:World} {m:OMod} {au:Option Addr} {cu:Nat} {ad:Option Addr} {cd i:Nat} {v:Value} {L:List OSpot} {wr:World} (h1:spotsTo m.label m.decls (i + 1) = L) (h:ConfR w m au cu ad cd v L wr):ConfR w m au cu ad cd v (spotsTo m.label m.decls (i + 1)) wr:=by rw [h1];exact h
def clashTo (prev:List ODecl) (d:ODecl) (k:Nat):Bool:=(prev.take k).any fun e => decide (d.names.length = 1) && sameSs e.names d.names
theorem clashTo_next {prev:List ODecl} {d e:ODecl} {k:Nat} (h:prev[k]? = some e):clashTo prev d (k + 1) = (clashTo prev d k || (decide (d.names.length = 1) && sameSs e.names d.names)):=by
 unfold clashTo;rw [take_at h,List.any_append];simp
theorem clashTo_all (prev:List ODecl) (d:ODecl):clashTo prev d prev.length = clashB prev d:=by
 unfold clashTo clashB;rw [List.take_length]
 cases decide (d.names.length = 1) <;> simp
set_option maxRecDepth 100000 in
set_option maxHeartbeats 8000000 in
theorem r33Conflicts_any (m:OMod) (au:Option Addr) (cu:Nat) (ad:Option Addr) (cd:Nat) (w:World) (hm:ModIn w [] m au cu ad cd) (hs:SmM m) :
  Calls Tryz.prog 38 #[modV m au cu ad cd] w fun e w' => ∃ v,e = .returned v∧Reads w' [] (spotsT (spotsM m)) v∧Bw w w':=by
 have hS:Hid (spotsM m = if modErr m = 0 then spotsL m.label m.decls else []):=rfl;have hA1:=qalloc w (.cells #[.string m.label,.slice au m.uses.length cu,.slice ad m.decls.length cd] 52);have hA2:=qalloc (w.alloc (.cells #[.string m.label,.slice au m.uses.length cu,.slice ad m.decls.length cd] 52)) (.cells #[] 54);have hO:=made_spots (w.alloc (.cells #[.string m.label,.slice au m.uses.length cu,.slice ad m.decls.length cd] 52)) []
 have hsz:(w.alloc (.cells #[.string m.label,.slice au m.uses.length cu,.slice ad m.decls.length cd] 52)).heap.size = w.heap.size + 1:=World.size_alloc _ _;rw [hsz] at hO;have HC0:Hid (ConfR w m au cu ad cd (.slice (some ⟨w.heap.size + 1,0,none⟩) 0 0) [] ((w.alloc (.cells #[.string m.label,.slice au m.uses.length cu,.slice ad m.decls.length cd] 52)).alloc (.cells #[] 54))):=⟨hO,(CBox.new w 52 _).below hA2,qtrans hA1 hA2⟩;have HMI:=lH hm;have HS:=lH hs;clear hA1 hA2 hO hm hs;unfold modV
 go_enter Tryz.func38,Tryz.ntmps38
 go_upto_region 2 with (fail)
 (try rw [hsz])
 generalize ((w.alloc (.cells #[.string m.label,.slice au m.uses.length cu,.slice ad m.decls.length cd] 52)).alloc (.cells #[] 54)) = w0 at *;clear hsz;obtain ⟨x0,x1,x2,xl⟩:=cells3 HC0.out.box;have HCK:=lH (r24Check_any m au cu ad cd w0 (reads_strs.1 (HMI.out.below HC0.out.bel).uses).1 (HMI.out.below HC0.out.bel).decls HS.out);unfold modV at HCK;go_wp2_with (fail)
 refine HCK.out.mono ?_;rintro e w1 ⟨rfl,hb1⟩;have HC1:=lH (HC0.out.below hb1);clear x0 x1 x2 xl HCK HC0 hb1
 by_cases hq:modErr m = 0
 case neg =>
  have hz:(modErr m != 0) = true:=by simp [hq]
  have HS0:Hid (spotsM m = []):=by show _ = _;rw [hS.out,if_neg hq]
  clear hq hS;go_wp2;go_ret;exact ⟨_,rfl,by rw [HS0.out];exact HC1.out.own.reads0,HC1.out.bel⟩
 case pos =>
  have hz:(modErr m != 0) = false:=by simp [hq]
  have HS0:Hid (spotsM m = spotsL m.label m.decls):=by show _ = _;rw [hS.out,if_pos hq]
  have V:=valM hq
  have hcf:∀ d∈m.decls,confX d.body≤400:=fun d hd => by
   have h1:=(exprErr_iff.1 (decl_ok (V.decl d hd)).2.2.2).1;have h2:=conf_nodes d.body;omega
  have HLN:=lH (fun i (hi:i≤m.decls.length) => spotsTo_len (label:=m.label) hcf i hi);have HND:Hid (∀ d∈m.decls,(d.names.length = 1∨d.names.length = 3)∧confX d.body≤400):=fun d hd => ⟨names_len (decl_ok (V.decl d hd)).2.2.1,hcf d hd⟩;have hdl:=V.dlen;clear hcf V hq hS;go_upto_region 5 with (fail)
  go_loopw [3,4] (fun sv iv wr => ∃ i:Nat,i≤m.decls.length∧iv = .int .i64 i∧Hid (ConfR w m au cu ad cd sv (spotsTo m.label m.decls i) wr)) (fun _ iv _ => m.decls.length - (intOf iv).toNat)
  case atStart => exact ⟨0,Nat.zero_le _,rfl,by rw [spotsTo_zero];exact HC1⟩
  case round =>
   obtain ⟨i,hil,rfl,HC⟩:=hrel;clear HC1;have x2:=HC.out.box.cell (i:=2) (v:=.slice ad m.decls.length cd) rfl;have xl:=HC.out.box.lt
   by_cases hi:i < m.decls.length
   ·have hd':decide ((i:Int) < (m.decls.length:Int)) = true:=decide_eq_true (by omega)
    have hir:(i:Int) < (m.decls.length:Int):=by omega
    obtain ⟨d,hd⟩:∃ d,m.decls[i]? = some d:=⟨_,List.getElem?_eq_getElem hi⟩;obtain ⟨b,o,an,cn,sa,cs,rfl,hb,hcell,hn1,hn2,hrn,hc1,hc2,hrs⟩:=decls_elem HMI.out.decls hd;have hbr:b < wr.heap.size:=Nat.lt_of_lt_of_le hb HC.out.bel.size;have hmem:=List.mem_of_getElem? hd;have HRN:=lH (hrn.out);have HRS:=lH (hrs.out);have HSD:=lH (HS.out.decls d hmem);have HSX:=lH ((spotsTo_succ m.label m.decls i).trans (by rw [dAt_of hd]));have hcn:=(HND.out d hmem).2;have hln:=HLN.out i hil;have hnl:=(HND.out d hmem).1
    have c0:=(HC.out.bel.cell (p:=⟨b,_,none⟩) hb).trans (hcell 0 (.int .i64 d.id) rfl);have c1:=(HC.out.bel.cell (p:=⟨b,_,none⟩) hb).trans (hcell 1 (.int .i64 d.kind) rfl);have c2:=(HC.out.bel.cell (p:=⟨b,_,none⟩) hb).trans (hcell 2 (.bool d.pub) rfl);have c3:=(HC.out.bel.cell (p:=⟨b,_,none⟩) hb).trans (hcell 3 (.slice an d.names.length cn) rfl);have c4:=(HC.out.bel.cell (p:=⟨b,_,none⟩) hb).trans (hcell 4 (.bool d.doubt) rfl);have c5:=(HC.out.bel.cell (p:=⟨b,_,none⟩) hb).trans (hcell 5 (.int .i64 d.body.kind) rfl)
    have c6:=(HC.out.bel.cell (p:=⟨b,_,none⟩) hb).trans (hcell 6 (.string d.body.name) rfl);have c7:=(HC.out.bel.cell (p:=⟨b,_,none⟩) hb).trans (hcell 7 (.string d.body.more) rfl);have c8:=(HC.out.bel.cell (p:=⟨b,_,none⟩) hb).trans (hcell 8 (.int .i64 d.body.num) rfl);have c9:=(HC.out.bel.cell (p:=⟨b,_,none⟩) hb).trans (hcell 9 (.int .i64 d.body.den) rfl);have c10:=(HC.out.bel.cell (p:=⟨b,_,none⟩) hb).trans (hcell 10 (.slice sa d.body.subs.length cs) rfl);rw [Nat.add_zero] at c0
    have HD:=lH (HC.out.open #[.int .i64 d.id,.int .i64 d.kind,.bool d.pub,.slice an d.names.length cn,.bool d.doubt,.int .i64 d.body.kind,.string d.body.name,.string d.body.more,.int .i64 d.body.num,.int .i64 d.body.den,.slice sa d.body.subs.length cs]);clear hcell hrn hrs hd hmem HC hn1 hn2 hc1 hc2;obtain ⟨A1,hA1⟩:∃ A,(if d.names.length = 3 then [(⟨m.label,1,d.id,0⟩:OSpot)] else []) = A:=⟨_,rfl⟩;obtain ⟨A3,hA3⟩:∃ A,(if d.doubt then [(⟨m.label,3,d.id,0⟩:OSpot)] else []) = A:=⟨_,rfl⟩
    obtain ⟨A4,hA4⟩:∃ A,(if clashB (m.decls.take i) d then [(⟨m.label,4,d.id,0⟩:OSpot)] else []) = A:=⟨_,rfl⟩
    replace HSX:Hid (spotsTo m.label m.decls (i + 1) = spotsTo m.label m.decls i ++ A1 ++ spots2 m.label d.id (confX d.body) ++ A3 ++ A4):=by
     show _ = _
     rw [HSX.out,← hA1,← hA3,← hA4];unfold spotsD spots2;simp only [List.append_assoc]
    have HA1:=lH hA1;have HA3:=lH hA3;have HA4:=lH hA4;clear hA1 hA3 hA4;obtain ⟨L0,hL0⟩:∃ L,spotsTo m.label m.decls i = L:=⟨_,rfl⟩;rw [hL0] at HSX HD hln;clear hL0;go_upto_region 8 with (fail)
    clear x2 xl c0 c1 c2 c3 c4 c5 c6 c7 c8 c9 c10 hb hbr;generalize World.alloc wr _ = w2 at *;obtain ⟨D,hDe⟩:∃ D,wr.heap.size = D:=⟨_,rfl⟩;rw [hDe] at HD ⊢;clear hDe;have hL1:∃ L1,L0 ++ A1 = L1∧L1.length≤L0.length + 1:=⟨_,rfl,by rw [List.length_append,← HA1.out];split <;> simp⟩;obtain ⟨L1,hL1,hl1⟩:=hL1;rw [hL1] at HSX;have x0:=HD.out.box.cell (i:=0) (v:=.string m.label) rfl;have xl:=HD.out.box.lt;have d0:=HD.out.dbox.cell (i:=0) (v:=.int .i64 d.id) rfl;have d3:=HD.out.dbox.cell (i:=3) (v:=.slice an d.names.length cn) rfl
    have d4:=HD.out.dbox.cell (i:=4) (v:=.bool d.doubt) rfl;have d5:=HD.out.dbox.cell (i:=5) (v:=.int .i64 d.body.kind) rfl;have d6:=HD.out.dbox.cell (i:=6) (v:=.string d.body.name) rfl;have d7:=HD.out.dbox.cell (i:=7) (v:=.string d.body.more) rfl;have d8:=HD.out.dbox.cell (i:=8) (v:=.int .i64 d.body.num) rfl;have d9:=HD.out.dbox.cell (i:=9) (v:=.int .i64 d.body.den) rfl;have d10:=HD.out.dbox.cell (i:=10) (v:=.slice sa d.body.subs.length cs) rfl;have dl:=HD.out.dbox.lt;go_upto_if 29 with (fail)
    go_cut [3] from 26 to 37 (fun sv wx => Hid (ConfRD w m au cu (some ⟨b,o,none⟩) cd D #[.int .i64 d.id,.int .i64 d.kind,.bool d.pub,.slice an d.names.length cn,.bool d.doubt,.int .i64 d.body.kind,.string d.body.name,.string d.body.more,.int .i64 d.body.num,.int .i64 d.body.den,.slice sa d.body.subs.length cs] sv L1 wx))
    case first =>
     by_cases hn:d.names.length = 3
     ·have b3:((d.names.length:Int) == 3) = true:=by rw [hn];rfl
      obtain rfl:[(⟨m.label,1,d.id,0⟩:OSpot)] = A1:=by have:=HA1.out;rwa [if_pos hn] at this
      subst hL1;clear hn;rw [b3];go_wp2_with (at_builtin;refine wpList_spotR rfl _ _ rfl rfl ⟨m.label,1,d.id,0⟩ rfl HD.out (by omega) ?_;rintro v1 w3 HX9 -;have HD1:=lH HX9;clear HX9 x0 xl d0 d3 d4 d5 d6 d7 d8 d9 d10 dl)
      go_meet
      case rel => exact HD1
     ·have b3:((d.names.length:Int) == 3) = false:=by simp;omega
      obtain rfl:[] = A1:=by have:=HA1.out;rwa [if_neg hn] at this
      rw [List.append_nil] at hL1;subst hL1;clear hn;rw [b3];go_wp2;go_meet
      case rel => exact HD
    case rest =>
    have HD1:=hcut;clear hcut HD HA1 hL1 x0 xl d0 d3 d4 d5 d6 d7 d8 d9 d10 dl;generalize wc = w3 at *;have HXC:=lH (fun W (h:Bw w W) => r32Conflicts_any d.body sa cs W (HRS.out.below h) HSD.out.nodes);unfold exV at HXC;obtain ⟨q,hq⟩:∃ q,confX d.body = q:=⟨_,rfl⟩;rw [hq] at HSX hcn
    replace HXC:Hid (∀ W (h:Bw w W),Calls Tryz.prog 87 #[.agg #[.int .i64 d.body.kind,.string d.body.name,.string d.body.more,.int .i64 d.body.num,.int .i64 d.body.den,.slice sa d.body.subs.length cs]] W fun e w' => e = .returned (.int .i64 (q:Nat))∧Bw W w'):=fun W h => by rw [← hq];exact HXC.out W h
    clear hq;generalize wr = wo at *;go_wp2
    go_loopw [3,6] (fun sv kv wx => ∃ k:Nat,k≤q∧kv = .int .i64 k∧Hid (ConfRD w m au cu (some ⟨b,o,none⟩) cd D #[.int .i64 d.id,.int .i64 d.kind,.bool d.pub,.slice an d.names.length cn,.bool d.doubt,.int .i64 d.body.kind,.string d.body.name,.string d.body.more,.int .i64 d.body.num,.int .i64 d.body.den,.slice sa d.body.subs.length cs] sv (L1 ++ spots2 m.label d.id k) wx)) (fun _ kv _ => q - (intOf kv).toNat)
    case atStart => exact ⟨0,Nat.zero_le _,rfl,by rw [show spots2 m.label d.id 0 = [] from rfl,List.append_nil];exact HD1⟩
    case round =>
     obtain ⟨k,hk,rfl,HK⟩:=hrel;clear HD1;have x0:=HK.out.box.cell (i:=0) (v:=.string m.label) rfl;have xl:=HK.out.box.lt;have d0:=HK.out.dbox.cell (i:=0) (v:=.int .i64 d.id) rfl;have d3:=HK.out.dbox.cell (i:=3) (v:=.slice an d.names.length cn) rfl;have d4:=HK.out.dbox.cell (i:=4) (v:=.bool d.doubt) rfl;have d5:=HK.out.dbox.cell (i:=5) (v:=.int .i64 d.body.kind) rfl;have d6:=HK.out.dbox.cell (i:=6) (v:=.string d.body.name) rfl;have d7:=HK.out.dbox.cell (i:=7) (v:=.string d.body.more) rfl
     have d8:=HK.out.dbox.cell (i:=8) (v:=.int .i64 d.body.num) rfl;have d9:=HK.out.dbox.cell (i:=9) (v:=.int .i64 d.body.den) rfl;have d10:=HK.out.dbox.cell (i:=10) (v:=.slice sa d.body.subs.length cs) rfl;have dl:=HK.out.dbox.lt;go_wp2_with (fail)
     refine (HXC.out _ HK.out.bel).mono ?_;rintro e w5 ⟨rfl,hb5⟩;have HK5:=lH (HK.out.below hb5);clear hb5 HK x0 xl d0 d3 d4 d5 d6 d7 d8 d9 d10 dl;have x0:=HK5.out.box.cell (i:=0) (v:=.string m.label) rfl;have xl:=HK5.out.box.lt;have d0:=HK5.out.dbox.cell (i:=0) (v:=.int .i64 d.id) rfl;have d3:=HK5.out.dbox.cell (i:=3) (v:=.slice an d.names.length cn) rfl;have d4:=HK5.out.dbox.cell (i:=4) (v:=.bool d.doubt) rfl;have d5:=HK5.out.dbox.cell (i:=5) (v:=.int .i64 d.body.kind) rfl
     have d6:=HK5.out.dbox.cell (i:=6) (v:=.string d.body.name) rfl;have d7:=HK5.out.dbox.cell (i:=7) (v:=.string d.body.more) rfl;have d8:=HK5.out.dbox.cell (i:=8) (v:=.int .i64 d.body.num) rfl;have d9:=HK5.out.dbox.cell (i:=9) (v:=.int .i64 d.body.den) rfl;have d10:=HK5.out.dbox.cell (i:=10) (v:=.slice sa d.body.subs.length cs) rfl;have dl:=HK5.out.dbox.lt
     by_cases hkq:k < q
     ·have hd2:decide ((k:Int) < (q:Int)) = true:=decide_eq_true (by omega)
      go_wp2_with (at_builtin;refine wpList_spotR rfl _ _ rfl rfl ⟨m.label,2,d.id,(k:Int)⟩ rfl HK5.out (by rw [List.length_append,spots2_len];omega) ?_;rintro v5 w6 HX9 -;have HK6:=lH HX9;clear HX9 x0 xl d0 d3 d4 d5 d6 d7 d8 d9 d10 dl)
      rw [List.append_assoc,← spots2_succ] at HK6;go_roundw
      case rel => exact ⟨k + 1,by omega,by go_num,HK6⟩
      case measure => simp [intOf];omega
     ·have hd2:decide ((k:Int) < (q:Int)) = false:=decide_eq_false (by omega)
      obtain rfl:k = q:=by omega
      have hL2:∃ L2,(L1 ++ spots2 m.label d.id k) ++ A3 = L2∧L2.length≤L0.length + k + 2:=⟨_,rfl,by rw [List.length_append,List.length_append,spots2_len,← HA3.out];split <;> simp <;> omega⟩;obtain ⟨L2,hL2,hl2⟩:=hL2;rw [hL2] at HSX;obtain ⟨db,hdb⟩:∃ db,d.doubt = db:=⟨_,rfl⟩;have HA3b:Hid ((if db then [(⟨m.label,3,d.id,0⟩:OSpot)] else []) = A3):=by have:=HA3.out;rwa [hdb] at this
      rw [hdb] at d4;clear hdb;go_upto_if 55 with (fail)
      go_cut [3] from 54 to 63 (fun sv wx => Hid (ConfRD w m au cu (some ⟨b,o,none⟩) cd D #[.int .i64 d.id,.int .i64 d.kind,.bool d.pub,.slice an d.names.length cn,.bool d.doubt,.int .i64 d.body.kind,.string d.body.name,.string d.body.more,.int .i64 d.body.num,.int .i64 d.body.den,.slice sa d.body.subs.length cs] sv L2 wx))
      case first =>
       have ha3:=HA3b.out
       cases db with
       | true =>
        obtain rfl:[(⟨m.label,3,d.id,0⟩:OSpot)] = A3:=ha3;subst hL2;go_wp2_with (at_builtin;refine wpList_spotR rfl _ _ rfl rfl ⟨m.label,3,d.id,0⟩ rfl HK5.out (by rw [List.length_append,spots2_len];omega) ?_;rintro v5 w6 HX9 -;have HK6:=lH HX9;clear HX9 x0 xl d0 d3 d4 d5 d6 d7 d8 d9 d10 dl)
        go_meet
        case rel => exact HK6
       | false =>
        obtain rfl:[] = A3:=ha3;rw [List.append_nil] at hL2;subst hL2;go_wp2;go_meet
        case rel => exact HK5
      case rest =>
      have HK7:=hcut;clear hcut HK5 HA3 HA3b hL2 x0 xl d0 d3 d4 d5 d6 d7 d8 d9 d10 dl;generalize wc = w7 at *;go_upto_region 18 with (fail)
      go_loopw [7,8] (fun bv kv wx => ∃ (k:Nat) (c:Bool),k≤i∧bv = .bool c∧kv = .int .i64 k∧Hid (c = clashTo (m.decls.take i) d k)∧Hid (ConfRD w m au cu (some ⟨b,o,none⟩) cd D #[.int .i64 d.id,.int .i64 d.kind,.bool d.pub,.slice an d.names.length cn,.bool d.doubt,.int .i64 d.body.kind,.string d.body.name,.string d.body.more,.int .i64 d.body.num,.int .i64 d.body.den,.slice sa d.body.subs.length cs] u3 L2 wx)) (fun _ kv _ => i - (intOf kv).toNat)
      case atStart => exact ⟨0,false,Nat.zero_le _,rfl,rfl,by show false = _;unfold clashTo;simp,HK7⟩
      case round =>
       obtain ⟨k2,c,hk2,rfl,rfl,HCL,HK⟩:=hrel;clear HK7
       by_cases hki:k2 < i
       ·have hd3:decide ((k2:Int) < (i:Int)) = true:=decide_eq_true (by omega)
        have hkm:k2 < m.decls.length:=by omega
        have hkr:(k2:Int) < (m.decls.length:Int):=by omega
        obtain ⟨f,hf⟩:∃ f,m.decls[k2]? = some f:=⟨_,List.getElem?_eq_getElem hkm⟩;obtain ⟨b1,o1,an2,cn2,sa2,cs2,hbe,hb2,hcell,-,-,hrn2,-,-,-⟩:=decls_elem HMI.out.decls hf
        injection hbe with hbe
        injection hbe with hbe1 hbe2
        subst hbe1 hbe2;have HFN:=lH (HS.out.decls f (List.mem_of_getElem? hf)).len;have HNX:=lH (clashTo_next (prev:=m.decls.take i) (d:=d) (k:=k2) (e:=f) (by rw [List.getElem?_take,if_pos hki];exact hf));have HSS:=lH (fun W (h:Bw w W) => rSameStrings_any f.names d.names an2 an cn2 cn W (reads_strs.1 (hrn2.out.below h)).1 (reads_strs.1 (HRN.out.below h)).1 HFN.out)
        have SW:Hid (∀ W:World,Bw wr W→(W.cell? ⟨w.heap.size,2,none⟩ = some (.slice (some ⟨b,o,none⟩) m.decls.length cd)∧W.cell? ⟨D,3,none⟩ = some (.slice an d.names.length cn)∧W.cell? ⟨b,o + k2 * 11 + 3,none⟩ = some (.slice an2 f.names.length cn2)∧w.heap.size < W.heap.size∧D < W.heap.size∧b < W.heap.size)):=lH (fun W hW => ⟨(HK.out.box.below hW).cell (i:=2) (v:=.slice (some ⟨b,o,none⟩) m.decls.length cd) rfl,(HK.out.dbox.below hW).cell (i:=3) (v:=.slice an d.names.length cn) rfl,((HK.out.bel.trans (hW.mono HK.out.bel.size)).cell (p:=⟨b,_,none⟩) hb2).trans (hcell 3 (.slice an2 f.names.length cn2) rfl),(HK.out.box.below hW).lt,(HK.out.dbox.below hW).lt,Nat.lt_of_lt_of_le hb2 (HK.out.bel.trans (hW.mono HK.out.bel.size)).size⟩)
        have HBW:=lH (fun W (h:Bw wr W) => HK.out.bel.trans (h.mono HK.out.bel.size));clear hf hcell hrn2 hb2 hkm;generalize sameSs f.names d.names = y at *;have hbd:Bw wr wr.drew:=(Mod.refl [] wr).drew.below;go_upto_region 20 with (fail)
        by_cases hc:c = true
        ·subst hc
         refine wp_region_noPanic (region_lex (fun W:World => W.cell? ⟨w.heap.size,2,none⟩ = some (.slice (some ⟨b,o,none⟩) m.decls.length cd)∧W.cell? ⟨D,3,none⟩ = some (.slice an d.names.length cn)∧W.cell? ⟨b,o + k2 * 11 + 3,none⟩ = some (.slice an2 f.names.length cn2)∧w.heap.size < W.heap.size∧D < W.heap.size∧b < W.heap.size) [true,true,true,true,true,true,true,true,true,true,true,true,true,true,true,false,true,true,true] mixedK (by kernel_rfl) (fun _ _ _ _ _ h => h) (SW.out _ hbd) (fun _ => ?_))
         iterate 2 (first | (refine lex_skip (by rfl) ?_;(try simp only [Act.put,List.setIfInBounds_toArray,List.set_cons_zero,List.set_cons_succ])) | (refine lex_take (v:=?_) (by rfl) ?_ ?_;rotate_left;(focus (intro wq hSw;(try dsimp only at hSw);go_simp;(try with_reducible rfl)));(try simp only [Act.put,List.setIfInBounds_toArray,List.set_cons_zero,List.set_cons_succ])))
         iterate 15 (refine lex_skip (by rfl) ?_;(try simp only [Act.put,List.setIfInBounds_toArray,List.set_cons_zero,List.set_cons_succ]))
         iterate 2 (first | (refine lex_skip (by rfl) ?_;(try simp only [Act.put,List.setIfInBounds_toArray,List.set_cons_zero,List.set_cons_succ])) | (refine lex_take (v:=?_) (by rfl) ?_ ?_;rotate_left;(focus (intro wq hSw;(try dsimp only at hSw);go_simp;(try with_reducible rfl)));(try simp only [Act.put,List.setIfInBounds_toArray,List.set_cons_zero,List.set_cons_succ])))
         refine lex_end ?_;refine NoPanic.normal ?_;have HK9:=lH (HK.out.below hbd);have HC9:Hid (true = clashTo (m.decls.take i) d (k2 + 1)):=by show _ = _;rw [HNX.out,← HCL.out];rfl
         go_wp2;go_roundw
         case rel => exact ⟨k2 + 1,true,by omega,rfl,by go_num,HC9,HK9⟩
         case measure => simp [intOf];omega
        ·obtain rfl:c = false:=by simpa using hc
         clear hc
         by_cases hn1:d.names.length = 1
         ·have b1:((d.names.length:Int) == 1) = true:=by rw [hn1];rfl
          have HQQ:Hid ((false || (decide (d.names.length = 1) && y)) = y):=by show _ = _;rw [decide_eq_true hn1];simp
          clear hn1;refine wp_region_noPanic (region_lex (fun W:World => W.cell? ⟨w.heap.size,2,none⟩ = some (.slice (some ⟨b,o,none⟩) m.decls.length cd)∧W.cell? ⟨D,3,none⟩ = some (.slice an d.names.length cn)∧W.cell? ⟨b,o + k2 * 11 + 3,none⟩ = some (.slice an2 f.names.length cn2)∧w.heap.size < W.heap.size∧D < W.heap.size∧b < W.heap.size) [true,true,true,true,true,true,true,true,true,true,true,true,true,true,true,false,true,true,true] mixedK (by kernel_rfl) (fun _ _ _ _ _ h => h) (SW.out _ hbd) (fun _ => ?_))
          iterate 15 (first | (refine lex_skip (by rfl) ?_;(try simp only [Act.put,List.setIfInBounds_toArray,List.set_cons_zero,List.set_cons_succ])) | (refine lex_take (v:=?_) (by rfl) ?_ ?_;rotate_left;(focus (intro wq hSw;(try dsimp only at hSw);go_simp;(try with_reducible rfl)));(try simp only [Act.put,List.setIfInBounds_toArray,List.set_cons_zero,List.set_cons_succ])))
          generalize wr.drew = wd at *
          (refine lex_do (by rfl) (fun K hK => ?_);go_simp)
          refine (HSS.out _ (HBW.out _ hbd)).mono ?_;rintro e1 w10 ⟨rfl,hb10⟩
          (try go_simp)
          have hb10:=qtrans hbd hb10;refine hK.out _ _ (SW.out _ hb10) (fun _ => ?_);clear hK K;(try simp only [Act.put,List.setIfInBounds_toArray,List.set_cons_zero,List.set_cons_succ])
          iterate 3 (first | (refine lex_skip (by rfl) ?_;(try simp only [Act.put,List.setIfInBounds_toArray,List.set_cons_zero,List.set_cons_succ])) | (refine lex_take (v:=?_) (by rfl) ?_ ?_;rotate_left;(focus (intro wq hSw;(try dsimp only at hSw);go_simp;(try with_reducible rfl)));(try simp only [Act.put,List.setIfInBounds_toArray,List.set_cons_zero,List.set_cons_succ])))
          refine lex_end ?_;refine NoPanic.normal ?_;have HK9:=lH (HK.out.below hb10);have HC9:Hid (y = clashTo (m.decls.take i) d (k2 + 1)):=by show _ = _;rw [HNX.out,← HCL.out];exact HQQ.out.symm
          go_wp2;go_roundw
          case rel => exact ⟨k2 + 1,y,by omega,rfl,by go_num,HC9,HK9⟩
          case measure => simp [intOf];omega
         ·have b1:((d.names.length:Int) == 1) = false:=by simp;omega
          have HQQ:Hid ((false || (decide (d.names.length = 1) && y)) = false):=by show _ = _;rw [decide_eq_false hn1];simp
          clear hn1;refine wp_region_noPanic (region_lex (fun W:World => W.cell? ⟨w.heap.size,2,none⟩ = some (.slice (some ⟨b,o,none⟩) m.decls.length cd)∧W.cell? ⟨D,3,none⟩ = some (.slice an d.names.length cn)∧W.cell? ⟨b,o + k2 * 11 + 3,none⟩ = some (.slice an2 f.names.length cn2)∧w.heap.size < W.heap.size∧D < W.heap.size∧b < W.heap.size) [true,true,true,true,true,true,true,true,true,true,true,true,true,true,true,false,true,true,true] mixedK (by kernel_rfl) (fun _ _ _ _ _ h => h) (SW.out _ hbd) (fun _ => ?_))
          iterate 7 (first | (refine lex_skip (by rfl) ?_;(try simp only [Act.put,List.setIfInBounds_toArray,List.set_cons_zero,List.set_cons_succ])) | (refine lex_take (v:=?_) (by rfl) ?_ ?_;rotate_left;(focus (intro wq hSw;(try dsimp only at hSw);go_simp;(try with_reducible rfl)));(try simp only [Act.put,List.setIfInBounds_toArray,List.set_cons_zero,List.set_cons_succ])))
          iterate 9 (refine lex_skip (by rfl) ?_;(try simp only [Act.put,List.setIfInBounds_toArray,List.set_cons_zero,List.set_cons_succ]))
          iterate 3 (first | (refine lex_skip (by rfl) ?_;(try simp only [Act.put,List.setIfInBounds_toArray,List.set_cons_zero,List.set_cons_succ])) | (refine lex_take (v:=?_) (by rfl) ?_ ?_;rotate_left;(focus (intro wq hSw;(try dsimp only at hSw);go_simp;(try with_reducible rfl)));(try simp only [Act.put,List.setIfInBounds_toArray,List.set_cons_zero,List.set_cons_succ])))
          refine lex_end ?_;refine NoPanic.normal ?_;have HK9:=lH (HK.out.below hbd);have HC9:Hid (false = clashTo (m.decls.take i) d (k2 + 1)):=by show _ = _;rw [HNX.out,← HCL.out];exact HQQ.out.symm
          go_wp2;go_roundw
          case rel => exact ⟨k2 + 1,false,by omega,rfl,by go_num,HC9,HK9⟩
          case measure => simp [intOf];omega
       ·have hd3:decide ((k2:Int) < (i:Int)) = false:=decide_eq_false (by omega)
        have ha4:=HA4.out
        have hce:c = clashB (m.decls.take i) d:=by
         have h1:=HCL.out;have h2:=clashTo_all (m.decls.take i) d;rw [List.length_take,show min i m.decls.length = i by omega] at h2;rw [h1,← h2,show k2 = i by omega]
        rw [← hce] at ha4;clear hce HCL
        cases c with
        | true =>
         obtain rfl:[(⟨m.label,4,d.id,0⟩:OSpot)] = A4:=ha4;have x0:=HK.out.box.cell (i:=0) (v:=.string m.label) rfl;have xl:=HK.out.box.lt;have d0:=HK.out.dbox.cell (i:=0) (v:=.int .i64 d.id) rfl;have d3:=HK.out.dbox.cell (i:=3) (v:=.slice an d.names.length cn) rfl;have d4:=HK.out.dbox.cell (i:=4) (v:=.bool d.doubt) rfl;have d5:=HK.out.dbox.cell (i:=5) (v:=.int .i64 d.body.kind) rfl;have d6:=HK.out.dbox.cell (i:=6) (v:=.string d.body.name) rfl;have d7:=HK.out.dbox.cell (i:=7) (v:=.string d.body.more) rfl
         have d8:=HK.out.dbox.cell (i:=8) (v:=.int .i64 d.body.num) rfl;have d9:=HK.out.dbox.cell (i:=9) (v:=.int .i64 d.body.den) rfl;have d10:=HK.out.dbox.cell (i:=10) (v:=.slice sa d.body.subs.length cs) rfl;have dl:=HK.out.dbox.lt;go_wp2_with (at_builtin;refine wpList_spotR rfl _ _ rfl rfl ⟨m.label,4,d.id,0⟩ rfl HK.out (by omega) ?_;rintro v9 w9 HX9 -;have HK9:=lH HX9;clear HX9 x0 xl d0 d3 d4 d5 d6 d7 d8 d9 d10 dl)
         have HF:=lH (confR_fin HSX.out HK9.out.toConfR);go_roundw
         case rel => exact ⟨i + 1,by omega,by go_num,HF⟩
         case measure => simp [intOf];omega
        | false =>
         obtain rfl:[] = A4:=ha4;rw [List.append_nil] at HSX;have HF:=lH (confR_fin HSX.out HK.out.toConfR);go_wp2;go_roundw
         case rel => exact ⟨i + 1,by omega,by go_num,HF⟩
         case measure => simp [intOf];omega
   ·have hd':decide ((i:Int) < (m.decls.length:Int)) = false:=decide_eq_false (by omega)
    obtain rfl:i = m.decls.length:=by omega
    go_wp2;go_ret;exact ⟨_,rfl,by rw [HS0.out];exact HC.out.own.reads0,HC.out.bel⟩
set_option maxHeartbeats 2000000 in
theorem r33Clean_any (m:OMod) (au:Option Addr) (cu:Nat) (ad:Option Addr) (cd:Nat) (w:World) (hm:ModIn w [] m au cu ad cd) (hs:SmM m) :
  Calls Tryz.prog 40 #[modV m au cu ad cd] w fun e w' => e = .returned (.bool (cleanB m))∧Bw w w':=by
 have hq:=qalloc w (.cells #[.string m.label,.slice au m.uses.length cu,.slice ad m.decls.length cd] 52);have HB:=lH (CBox.new w 52 #[.string m.label,.slice au m.uses.length cu,.slice ad m.decls.length cd]);have HCK:=lH (r24Check_any m au cu ad cd _ (reads_strs.1 (hm.below hq).uses).1 (hm.below hq).decls hs);have HCF:=lH (fun W (h:Bw w W) => r33Conflicts_any m au cu ad cd W (hm.below h) hs);have HSP:Hid (modErr m = 0→spotsM m = spotsL m.label m.decls):=fun h => by unfold spotsM;rw [if_pos h]
 have HSM:Hid (cleanB m = (decide (modErr m = 0) && (spotsL m.label m.decls).isEmpty)):=rfl;clear hm hs;unfold modV at *;generalize cleanB m = T at *;generalize modErr m = q at *;generalize spotsL m.label m.decls = L at *;generalize spotsM m = L' at *
 go_enter Tryz.func40,Tryz.ntmps40
 obtain ⟨x0,x1,x2,xl⟩:=cells3 HB.out;go_wp2_with (fail)
 refine HCK.out.mono ?_;rintro e w1 ⟨rfl,hb1⟩;have hw1:=qtrans hq hb1;have HB1:=lH (HB.out.below hb1);clear x0 x1 x2 xl HCK hb1 HB hq
 by_cases hq0:q = 0
 ·have q3:(q == 0) = true:=by rw [hq0];rfl
  have HSM:=lH (HSM.out.trans (by rw [decide_eq_true hq0];rfl:_ = L.isEmpty));obtain rfl:L' = L:=HSP.out hq0;have HC2:=lH (HCF.out w1 hw1);clear hq0 HCF HSP;obtain ⟨x0,x1,x2,xl⟩:=cells3 HB1.out;go_wp2_with (fail)
  refine HC2.out.mono ?_;rintro e w2 ⟨v,rfl,hr,hb2⟩;obtain ⟨a,c,rfl,-⟩:=hr.val
  have hL:((L'.length:Int) == 0) = L'.isEmpty:=by cases L' with | nil => rfl | cons y r => simp;omega
  clear x0 x1 x2 xl hr
  cases hle:L'.isEmpty with
  | true =>
   rw [hle] at hL HSM;clear hle;go_wp2;go_ret;exact ⟨ret_bool (by rw [HSM.out]),qtrans hw1 hb2⟩
  | false =>
   rw [hle] at hL HSM;clear hle;go_wp2;go_ret;exact ⟨ret_bool (by rw [HSM.out]),qtrans hw1 hb2⟩
 ·have q3:(q == 0) = false:=by simp [hq0]
  have HSM:=lH (HSM.out.trans (by rw [decide_eq_false hq0];rfl:_ = false));clear hq0 HCF HSP;go_wp2;go_ret;exact ⟨ret_bool (by rw [HSM.out]),hw1⟩
end Go.Proofs.YtdpnfkjafhbndaaGreatDoor

