/- modmerge.Merge. -/
import Derived.Test.YtdpnfkjafhbndaaGreatDoorRXS
import Derived.Test.YtdpnfkjafhbndaaGreatDoorRXK
import Derived.Test.YtdpnfkjafhbndaaGreatDoorRG8
namespace Go.Proofs.YtdpnfkjafhbndaaGreatDoor
open Go.RowKit Go.Shelf Go.Maps
attribute [local go_sem] Oper.semAt_some run_mkMap
structure MergedM (b l r:OMod) (X:List Nat) (w:World) (e:Ending) (w':World):Prop where
  of ::
  out:∃ au cu ad cd,e = .returned (.tuple #[modV (mergeM b l r) au cu ad cd,.int .i64 (mergeMErr b l r)])∧ModIn w' X (mergeM b l r) au cu ad cd∧Below w.heap.size w w'
theorem noMod_in (w:World) (X:List Nat):ModIn w X noMod none 0 none 0:=⟨Reads.nilRow w X 1 _,Reads.nilRow w X 11 declT,Nat.le_refl _,Nat.zero_le _,Nat.le_refl _,Nat.zero_le _⟩
theorem MergedM.bad {b l r:OMod} {X:List Nat} {w w':World} {q:Int} (h:mergeMErr b l r = q) (hq:q≠0) (hb:Bw w w'):MergedM b l r X w (.returned (.tuple #[.agg #[.string ⟨#[]⟩,.slice none 0 0,.slice none 0 0],.int .i64 q])) w':=by
 have e:mergeM b l r = noMod:=by unfold mergeM;rw [h,if_neg hq]
 refine ⟨none,0,none,0,?_,?_,hb⟩
 ·rw [e,h];rfl
 ·rw [e];exact noMod_in _ _
theorem MergedM.good {b l r:OMod} {X:List Nat} {w w':World} {au ad:Option Addr} {cu cd:Nat} (h:mergeMErr b l r = 0) (hm:ModIn w' X (outM b l r) au cu ad cd) (hb:Bw w w'):MergedM b l r X w (.returned (.tuple #[modV (outM b l r) au cu ad cd,.int .i64 0])) w':=by
 have e:mergeM b l r = outM b l r:=by unfold mergeM;rw [h,if_pos rfl]
 refine ⟨au,cu,ad,cd,?_,?_,hb⟩
 ·rw [e,h]
 ·rw [e];exact hm
theorem err_side {b l r:OMod} {i:Nat} (hi:i < 3) (h:∀ j,j < i→modErr (tri b l r j) = 0) (hn:modErr (tri b l r i)≠0):mergeMErr b l r = modErr (tri b l r i):=by
 unfold mergeMErr
 match i,hi with
 | 0,_ => have n0:¬ modErr b = 0:=hn;rw [if_neg n0];rfl
 | 1,_ => have h0:modErr b = 0:=h 0 (by omega);have n1:¬ modErr l = 0:=hn;rw [if_pos h0,if_neg n1];rfl
 | 2,_ => have h0:modErr b = 0:=h 0 (by omega);have h1:modErr l = 0:=h 1 (by omega);have n2:¬ modErr r = 0:=hn;rw [if_pos h0,if_pos h1,if_neg n2];rfl
theorem mod_three (w:World) (B:Nat) (v0 v1 v2:Value):Mod [B] w (((w.setCell ⟨B,0,none⟩ v0).setCell ⟨B,1,none⟩ v1).setCell ⟨B,2,none⟩ v2):=by
 have hB:∀ o:Nat,(⟨B,o,none⟩:Addr).block∈[B]:=fun _ => List.mem_singleton.2 rfl;exact (((Mod.refl [B] w).setCell (hB 0) v0).setCell (hB 1) v1).setCell (hB 2) v2
theorem CBox.three {w:World} {B:Nat} {t:TypeId} {a0 a1 a2:Value} (h:CBox w B t #[a0,a1,a2]) (v0 v1 v2:Value) :
  CBox (((w.setCell ⟨B,0,none⟩ v0).setCell ⟨B,1,none⟩ v1).setCell ⟨B,2,none⟩ v2) B t #[v0,v1,v2]∧Mod [B] w (((w.setCell ⟨B,0,none⟩ v0).setCell ⟨B,1,none⟩ v1).setCell ⟨B,2,none⟩ v2):=by
 have h0:CBox _ B t #[v0,a1,a2]:=h.set 0 v0;have h1:CBox _ B t #[v0,v1,a2]:=h0.set 1 v1;exact ⟨h1.set 2 v2,mod_three w B v0 v1 v2⟩
structure SideIn (X:List Nat) (w:World) (m:OMod) (au:Option Addr) (cu:Nat) (ad:Option Addr) (cd:Nat):Prop where
  mod:ModIn w X m au cu ad cd
  sm:SmM m
  nodes:∀ d∈m.decls,nodesN d.body≤1000000
theorem SideIn.below {X:List Nat} {w w':World} {m:OMod} {au:Option Addr} {cu:Nat} {ad:Option Addr} {cd:Nat} (h:SideIn X w m au cu ad cd) (k:Bw w w'):SideIn X w' m au cu ad cd:=⟨h.mod.below k,h.sm,h.nodes⟩
theorem SideIn.more {X:List Nat} {w:World} {m:OMod} {au:Option Addr} {cu:Nat} {ad:Option Addr} {cd k:Nat} (h:SideIn X w m au cu ad cd) (hk:w.heap.size≤k):SideIn (k :: X) w m au cu ad cd:=⟨h.mod.more hk,h.sm,h.nodes⟩
theorem id_in {b l r:OMod} (hb:ValM b) (hl:ValM l) (hr:ValM r):∀ x∈idsM b l r,inI x:=fun x hx => by
 have key:∀ {m:OMod},ValM m→(∃ d∈m.decls,d.id = x)→inI x:=fun {m} hm ⟨d,hd,e⟩ => by
  have h1:=decl_ok (hm.decl d hd);unfold inI;omega
 rcases ((idsM_spec b l r).2 x).1 hx with h | h | h
 ·exact key hb h
 ·exact key hl h
 ·exact key hr h
theorem ids_len {b l r:OMod} (hb:ValM b) (hl:ValM l) (hr:ValM r):(idsM b l r).length≤300:=by
 have h:=(idsM_spec b l r);have hnd:(idsM b l r).Nodup:=h.1.imp fun {a b} h => by omega
 have hsub:idsM b l r ⊆ (b.decls ++ (l.decls ++ r.decls)).map (·.id):=fun x hx => by
  rcases (h.2 x).1 hx with ⟨d,hd,rfl⟩ | ⟨d,hd,rfl⟩ | ⟨d,hd,rfl⟩
  ·exact List.mem_map_of_mem (by simp [hd])
  ·exact List.mem_map_of_mem (by simp [hd])
  ·exact List.mem_map_of_mem (by simp [hd])
 have:=hnd.length_le_of_subset hsub;have b1:=hb.dlen;have b2:=hl.dlen;have b3:=hr.dlen;simp only [List.length_map,List.length_append] at this
 omega
theorem side_at {X:List Nat} {w wx:World} {S:Nat} {b l r:OMod} {aub adb aul adl aur adr:Option Addr} {cub cdb cul cdl cur cdr:Nat} (h:CBox wx S 52 #[.string b.label,.slice aub b.uses.length cub,.slice adb b.decls.length cdb,.string l.label,.slice aul l.uses.length cul,.slice adl l.decls.length cdl,.string r.label,.slice aur r.uses.length cur,.slice adr r.decls.length cdr])
    (hb:SideIn X w b aub cub adb cdb) (hl:SideIn X w l aul cul adl cdl) (hr:SideIn X w r aur cur adr cdr) {i:Nat} (hi:i < 3) :
    ∃ au cu ad cd,SideIn X w (tri b l r i) au cu ad cd∧wx.cell? ⟨S,i * 3,none⟩ = some (.string (tri b l r i).label)∧wx.cell? ⟨S,i * 3 + 1,none⟩ = some (.slice au (tri b l r i).uses.length cu)∧wx.cell? ⟨S,i * 3 + 2,none⟩ = some (.slice ad (tri b l r i).decls.length cd):=by
  match i,hi with
  | 0,_ => exact ⟨_,_,_,_,hb,h.cell (i:=0) rfl,h.cell (i:=1) rfl,h.cell (i:=2) rfl⟩
  | 1,_ => exact ⟨_,_,_,_,hl,h.cell (i:=3) rfl,h.cell (i:=4) rfl,h.cell (i:=5) rfl⟩
  | 2,_ => exact ⟨_,_,_,_,hr,h.cell (i:=6) rfl,h.cell (i:=7) rfl,h.cell (i:=8) rfl⟩
theorem eqPtr_nil (p:Option Addr) (w:World):(binOp .eql 126 (.pointer p) (.pointer none)).run Tryz.prog w = .ok (.bool p.isNone) w:=run_eql_pointer_nil w 126 p (by have h:=Tryz.underlying126;simp [Program.pointee,h])
theorem eqPtr_none (w:World):(binOp .eql 126 (.pointer none) (.pointer none)).run Tryz.prog w = .ok (.bool true) w:=eqPtr_nil none w
theorem eqPtr_some (a:Addr) (w:World):(binOp .eql 126 (.pointer (some a)) (.pointer none)).run Tryz.prog w = .ok (.bool false) w:=eqPtr_nil (some a) w
attribute [local go_sem] eqPtr_none eqPtr_some
attribute [local irreducible] World.cell? World.setCell
set_option maxRecDepth 100000 in
set_option maxHeartbeats 8000000 in
theorem mMerge_any (b l r:OMod) (aub aul aur adb adl adr:Option Addr) (cub cul cur cdb cdl cdr:Nat) (X:List Nat) (w:World) (hX:∀ k,k∈X→k < w.heap.size) (hb:SideIn X w b aub cub adb cdb) (hl:SideIn X w l aul cul adl cdl) (hr:SideIn X w r aur cur adr cdr) :
  Calls Tryz.prog 45 #[modV b aub cub adb cdb,modV l aul cul adl cdl,modV r aur cur adr cdr] w (MergedM b l r X w):=by
 obtain ⟨gb,gl,gr,hA,hs3⟩:=three_boxes w 52 (mA b aub cub adb cdb) (mA l aul cul adl cdl) (mA r aur cur adr cdr);have HX:=lH hX;have HB:=lH hb;have HL:=lH hl;have HR:=lH hr;clear hX hb hl hr;unfold modV
 go_enter Tryz.func45,Tryz.ntmps45
 go_upto_region 1 with (fail)
 generalize ((w.alloc (.cells (mA b aub cub adb cdb) 52)).alloc (.cells (mA l aul cul adl cdl) 52)).alloc (.cells (mA r aur cur adr cdr) 52) = W0 at *;have hbR:=CBox.new W0 52 mZ;have hA1:=qalloc W0 (.cells mZ 52);have hs4:(W0.alloc (.cells mZ 52)).heap.size = W0.heap.size + 1:=World.size_alloc _ _;unfold Bw at hA1;rw [hs3] at hs4 hbR hA1;obtain ⟨n1,hn1⟩:∃ n,w.heap.size + 1 = n:=⟨_,rfl⟩;rw [hn1] at gl gr hs3 hs4 hbR hA1 ⊢;obtain ⟨n2,hn2⟩:∃ n,n1 + 1 = n:=⟨_,rfl⟩;rw [hn2] at gr hs3 hs4 hbR hA1 ⊢;obtain ⟨R,hR⟩:∃ n,n2 + 1 = n:=⟨_,rfl⟩;rw [hR] at hs3 hs4 hbR hA1 ⊢
 have gb1:=gb.alloc (.cells mZ 52);have gl1:=gl.alloc (.cells mZ 52);have gr1:=gr.alloc (.cells mZ 52);have HA:=hA.trans (hA1.mono (by omega));clear hA hA1 gb gl gr;generalize World.alloc W0 _ = W1 at *;obtain ⟨a0,a1,a2,-⟩:=cells3 gb1;obtain ⟨b0,b1,b2,-⟩:=cells3 gl1;obtain ⟨c0,c1,c2,-⟩:=cells3 gr1;have q1:=gb1.lt;have q2:=gl1.lt;have q3:=gr1.lt;have q4:=hbR.lt;have GB1:=lH gb1;have GL1:=lH gl1;have GR1:=lH gr1;have HBR:=lH hbR;have HW1:=lH HA
 have HSZ:Hid (w.heap.size < n1∧n1 < n2∧n2 < R∧W1.heap.size = R + 1):=⟨by omega,by omega,by omega,hs4⟩;clear hs3 hs4 hn1 hn2 hR gb1 gl1 gr1 hbR HA;have HS:=lH (CBox.new W1 52 #[.string b.label,.slice aub b.uses.length cub,.slice adb b.decls.length cdb,.string l.label,.slice aul l.uses.length cul,.slice adl l.decls.length cdl,.string r.label,.slice aur r.uses.length cur,.slice adr r.decls.length cdr])
 have HA2:=lH (qalloc W1 (.cells #[.string b.label,.slice aub b.uses.length cub,.slice adb b.decls.length cdb,.string l.label,.slice aul l.uses.length cul,.slice adl l.decls.length cdl,.string r.label,.slice aur r.uses.length cur,.slice adr r.decls.length cdr] 52));go_upto_region 2 with (fail)
 have HB2:=lH ((HB.out.more (k:=R) (by have:=HSZ.out;omega)).below (HW1.out.trans (HA2.out.mono HW1.out.size)));have HL2:=lH ((HL.out.more (k:=R) (by have:=HSZ.out;omega)).below (HW1.out.trans (HA2.out.mono HW1.out.size)));have HR2:=lH ((HR.out.more (k:=R) (by have:=HSZ.out;omega)).below (HW1.out.trans (HA2.out.mono HW1.out.size)));have HBR2:=lH (HBR.out.below HA2.out);have HW2:Hid (Bw w _):=HW1.out.trans (HA2.out.mono HW1.out.size);have GB2:=lH (GB1.out.below HA2.out);have GL2:=lH (GL1.out.below HA2.out);have GR2:=lH (GR1.out.below HA2.out)
 have HSS:Hid (W1.heap.size + 1 = (W1.alloc (.cells #[.string b.label,.slice aub b.uses.length cub,.slice adb b.decls.length cdb,.string l.label,.slice aul l.uses.length cul,.slice adl l.decls.length cdl,.string r.label,.slice aur r.uses.length cur,.slice adr r.decls.length cdr] 52)).heap.size):=(World.size_alloc _ _).symm;clear a0 a1 a2 b0 b1 b2 c0 c1 c2 q1 q2 q3 q4 HB HL HR HBR HW1 GB1 GL1 GR1 HA2;generalize World.alloc W1 _ = W2 at *;obtain ⟨S,hS⟩:∃ S,W1.heap.size = S:=⟨_,rfl⟩;rw [hS] at HS HSS HSZ ⊢;clear hS;go_wp2
 go_loopw [32] (fun iv wr => ∃ i:Nat,i≤3∧iv = .int .i64 i∧Hid (∀ j,j < i→modErr (tri b l r j) = 0)∧Hid (Bw W2 wr)) (fun iv _ => 3 - (intOf iv).toNat)
 case atStart => exact ⟨0,Nat.zero_le _,rfl,fun j hj => absurd hj (Nat.not_lt_zero _),qrefl _⟩
 case round =>
  obtain ⟨i,hil,rfl,HN,HBX⟩:=hrel
  by_cases hi:i < 3
  ·have hd:decide ((i:Int) < (3:Int)) = true:=decide_eq_true (by omega)
   have hir:(i:Int) < (3:Int):=by omega
   obtain ⟨au,cu,ad,cd,hsi,m0,m1,m2⟩:=side_at (HS.out.below HBX.out) HB2.out HL2.out HR2.out hi;have hlt:=(HS.out.below HBX.out).lt;have HSI:=lH hsi;clear hsi;have HER:=lH (fun h => err_side (b:=b) (l:=l) (r:=r) hi HN.out h)
   have HNX:Hid (modErr (tri b l r i) = 0→∀ j,j < i + 1→modErr (tri b l r j) = 0):=fun h j hj => by
    by_cases e:j = i
    ·rw [e];exact h
    ·exact HN.out j (by omega)
   clear HN;generalize tri b l r i = m at *;have hal:=qalloc wr (.cells (mA m au cu ad cd) 52);have HM:=lH (CBox.new wr 52 (mA m au cu ad cd));have HB3:Hid (Bw W2 _):=HBX.out.trans (hal.mono HBX.out.size);have HSI3:=lH (HSI.out.below HB3.out);clear hal;go_upto_region 5 with (fail)
   have HBRr:=lH (HBR2.out.below HB3.out);generalize World.alloc wr _ = w3 at *;obtain ⟨E,hE⟩:∃ E,wr.heap.size = E:=⟨_,rfl⟩;rw [hE] at HM ⊢;clear hE m0 m1 m2 hlt HBX HSI;obtain ⟨y0,y1,y2,yl⟩:=cells3 HM.out;have HCK:=lH (bCheck_any m au cu ad cd w3 (reads_strs.1 HSI3.out.mod.uses).1 HSI3.out.mod.free.decls HSI3.out.sm);unfold modV at HCK;go_wp2_with (fail)
   refine HCK.out.mono ?_;rintro e w4 ⟨rfl,hb4⟩;have HB4:Hid (Bw w w4):=HW2.out.trans ((HB3.out.trans (hb4.mono HB3.out.size)).mono HW2.out.size);have HBR4:=lH (HBRr.out.below hb4);have HB24:Hid (Bw W2 w4):=HB3.out.trans (hb4.mono HB3.out.size);clear y0 y1 y2 yl HCK HM hb4 HB3 HBRr HSI3;obtain ⟨q,hq⟩:∃ q,modErr m = q:=⟨_,rfl⟩;rw [hq] at HER HNX ⊢;clear hq
   by_cases h0:q = 0
   ·have hz:(q != 0) = false:=by simp [h0]
    have HN':=lH (HNX.out h0);clear HNX HER h0;go_wp2;go_roundw
    case rel => exact ⟨i + 1,by omega,by go_num,HN',HB24⟩
    case measure => simp [intOf];omega
   ·have hz:(q != 0) = true:=by simp [h0]
    have HE:=lH (HER.out h0);have HQ:=lH h0;clear HNX HER h0;obtain ⟨o0,o1,o2,ol9⟩:=cells3 HBR4.out;obtain ⟨fo0,fo1,fo2⟩:=frozen3 HBR4.out
    (try dsimp only)
    repeat (first | go_values | go_skip | go_guarded | go_step | go_upon | go_in)
    (try simp only [Exit.inBlock,Exit.then])
    clear o0 fo0 o1 fo1 o2 fo2 ol9;obtain ⟨HC9,HM9⟩:=CBox.three (HBR4.out) (.string ⟨#[]⟩) (.slice none 0 0) (.slice none 0 0);generalize World.setCell _ ⟨R,2,none⟩ _ = WZ at *;obtain ⟨r0,r1,r2,-⟩:=cells3 HC9;refine bodyPost_ret (by simp [results,Tryz.results45,go_sem,r0,r1,r2];try rfl) rfl ?_;have hdZ:Bw w WZ:=(HB4.out).trans (HM9.upto (HB4.out).size (by intro k hk;simp at hk;have:=HSZ.out;omega));exact MergedM.bad HE.out HQ.out hdZ
  ·have hd:decide ((i:Int) < (3:Int)) = false:=decide_eq_false (by omega)
   have vb:modErr b = 0:=HN.out 0 (by omega);have vl:modErr l = 0:=HN.out 1 (by omega);have vr:modErr r = 0:=HN.out 2 (by omega)
   have HEQ:Hid (mergeMErr b l r = if eqS b.label l.label && eqS b.label r.label then
    (if (usesM b.uses l.uses r.uses).length≤20 then
     (if aliasDup (usesM b.uses l.uses r.uses) then 17
     else if declsErrM b.decls l.decls r.decls (idsM b l r) = 0 then (if (declsM b.decls l.decls r.decls (idsM b l r)).length≤100 then 0 else 4)
     else declsErrM b.decls l.decls r.decls (idsM b l r))
    else 4) else 11):=by
    show mergeMErr b l r = _
    unfold mergeMErr;rw [if_pos vb,if_pos vl,if_pos vr]
   have HVB:=lH (valM vb);have HVL:=lH (valM vl);have HVR:=lH (valM vr);have HWR:Hid (Bw w wr):=HW2.out.trans (HBX.out.mono HW2.out.size);have HBRr:=lH (HBR2.out.below HBX.out);have HBr:=lH (HB2.out.below HBX.out);have HLr:=lH (HL2.out.below HBX.out);have HRr:=lH (HR2.out.below HBX.out);have GBr:=lH (GB2.out.below HBX.out);have GLr:=lH (GL2.out.below HBX.out);have GRr:=lH (GR2.out.below HBX.out);have HSr:=lH (HS.out.below HBX.out);clear HN vb vl vr hil HW2 HBR2 HB2 HL2 HR2 GB2 GL2 GR2 HS HSS HBX
   have a0:=GBr.out.cell (i:=0) (v:=.string b.label) rfl;have b0:=GLr.out.cell (i:=0) (v:=.string l.label) rfl;have c0:=GRr.out.cell (i:=0) (v:=.string r.label) rfl;have q1:=GBr.out.lt;have q2:=GLr.out.lt;have q3:=GRr.out.lt;obtain ⟨x1,hx1⟩:∃ x,(b.label.toList == l.label.toList) = x:=⟨_,rfl⟩;obtain ⟨x2,hx2⟩:∃ x,(b.label.toList == r.label.toList) = x:=⟨_,rfl⟩;have HX1:Hid (eqS b.label l.label = x1):=hx1;have HX2:Hid (eqS b.label r.label = x2):=hx2
   by_cases hxx:(x1 && x2) = true
   ·have y1:x1 = true:=by simp at hxx;exact hxx.1
    have y2:x2 = true:=by simp at hxx;exact hxx.2
    subst y1;subst y2;rw [HX1.out,HX2.out,Bool.and_self,if_pos rfl] at HEQ;clear hxx;go_upto_region 11 with (fail)
    have HX5:Hid (∀ k,k∈R :: X→k < wr.heap.size):=fun k hk => by
     rcases List.mem_cons.1 hk with rfl | hk
     ·exact HBRr.out.lt
     ·exact Nat.lt_of_lt_of_le (HX.out k hk) HWR.out.size
    have HMU:=lH (mergeUses_any b l r aub aul aur adb adl adr cub cul cur cdb cdl cdr (R :: X) wr HX5.out HBr.out.mod.free HLr.out.mod.free HRr.out.mod.free HVB.out.ulen HVL.out.ulen HVR.out.ulen HBr.out.sm.uses HLr.out.sm.uses HRr.out.sm.uses);unfold modV at HMU;have a1:=GBr.out.cell (i:=1) (v:=.slice aub b.uses.length cub) rfl;have a2:=GBr.out.cell (i:=2) (v:=.slice adb b.decls.length cdb) rfl;have b1:=GLr.out.cell (i:=1) (v:=.slice aul l.uses.length cul) rfl;have b2:=GLr.out.cell (i:=2) (v:=.slice adl l.decls.length cdl) rfl
    have c1:=GRr.out.cell (i:=1) (v:=.slice aur r.uses.length cur) rfl;have c2:=GRr.out.cell (i:=2) (v:=.slice adr r.decls.length cdr) rfl;clear HX5;go_wp2_with (fail)
    refine HMU.out.mono ?_;rintro e w5 ⟨⟨a5,c5,rfl,hu5,hu51,hu52,hb5⟩⟩;clear a0 a1 a2 b0 b1 b2 c0 c1 c2 q1 q2 q3 HMU hx1 hx2 HX1 HX2;obtain ⟨U,hU⟩:∃ U,usesM b.uses l.uses r.uses = U:=⟨_,rfl⟩;rw [hU] at hu5 hu51 HEQ ⊢;have HU:=lH hU;clear hU;have HW5:Hid (Bw w w5):=HWR.out.trans (hb5.mono HWR.out.size);have HBR5:=lH (HBRr.out.below hb5);have HB5:=lH (HBr.out.below hb5);have HL5:=lH (HLr.out.below hb5);have HR5:=lH (HRr.out.below hb5);have HS5:=lH (HSr.out.below hb5);have GB5:=lH (GBr.out.below hb5)
    clear hb5 HWR HBRr HBr HLr HRr HSr GBr GLr GRr;obtain ⟨q,hq⟩:∃ q,usesErrM U = q:=⟨_,rfl⟩;have HQE:=lH hq;rw [hq];clear hq
    by_cases h0:q = 0
    ·have hz:(q != 0) = false:=by simp [h0]
     have HUO:Hid (usesOut U = U):=by show usesOut U = U;unfold usesOut;rw [HQE.out,if_pos h0]
     have HEQ2:Hid (mergeMErr b l r = if declsErrM b.decls l.decls r.decls (idsM b l r) = 0 then (if (declsM b.decls l.decls r.decls (idsM b l r)).length≤100 then 0 else 4) else declsErrM b.decls l.decls r.decls (idsM b l r)):=by
      show mergeMErr b l r = _
      rw [HEQ.out];have h:=HQE.out;unfold usesErrM at h;rw [h0] at h;split at h
      ·rename_i h20
       split at h
       ·cases h
       ·rename_i had
        rw [if_pos h20,if_neg had]
      ·cases h
     rw [HUO.out] at hu5 hu51 ⊢;have HUR:=lH hu5;clear hu5 HUO HEQ HQE h0
     have HW51:Hid (R < w5.heap.size∧S < w5.heap.size∧w.heap.size < w5.heap.size):=by
      have h1:=HBR5.out.lt;have h2:=HS5.out.lt;have h3:=HSZ.out;exact ⟨h1,h2,by omega⟩
     have HC0:Hid (Cols (R :: X) w5 (w5.alloc (.map #[] 0)) w5.heap.size 0 (fun _ => none) (qJ b l r 0 0)):=by
      show Cols _ _ _ _ _ _ _
      rw [qJ_zero];exact Cols.made (R :: X) w5 w5 (qrefl w5)
     have HVK:Hid (∀ k,k < 3→ValM (tri b l r k)):=fun k hk => match k,hk with
      | 0,_ => HVB.out
      | 1,_ => HVL.out
      | 2,_ => HVR.out
     go_upto_region 15 with (fail)
     generalize w5.alloc (.map #[] 0) = w6 at *;obtain ⟨M,hM⟩:∃ M,w5.heap.size = M:=⟨_,rfl⟩;rw [hM] at HC0 ⊢;have HMM:Hid (M = w5.heap.size):=hM.symm;clear hM;generalize wr = wo at *;go_wp2
     go_loopw [70] (fun iv wr => ∃ (k n:Nat) (P:Int→Option Nat),k≤3∧n≤100 * k∧iv = .int .i64 k∧Hid (Cols (R :: X) w5 wr M n P (qJ b l r k 0))∧Hid (Met P (qJ b l r k 0))) (fun iv _ => 3 - (intOf iv).toNat)
     case atStart => exact ⟨0,0,_,Nat.zero_le _,Nat.le_refl _,rfl,HC0,fun x p hp => by cases hp⟩
     case round =>
      obtain ⟨k,n,F,hk3,hn,rfl,HC,HMT⟩:=hrel;clear HC0
      by_cases hk:k < 3
      ·have hd:decide ((k:Int) < (3:Int)) = true:=decide_eq_true (by omega)
       have hir:(k:Int) < (3:Int):=by omega
       obtain ⟨au,cu,ad,cd,hsi,m0,m1,m2⟩:=side_at (HS5.out.below HC.out.low) HB5.out HL5.out HR5.out hk;have hlt:=(HS5.out.below HC.out.low).lt;have HSI:=lH hsi;clear hsi;have HVM:=lH (HVK.out k hk);have HNX:=lH (fun j d h => qJ_next (b:=b) (l:=l) (r:=r) (k:=k) (j:=j) (d:=d) h);have HNE:=lH (fun j h => qJ_end (b:=b) (l:=l) (r:=r) (k:=k) (j:=j) h);have HNN:=lH (fun j d h => qJ_none (b:=b) (l:=l) (r:=r) (k:=k) (j:=j) (d:=d) HVM.out.ids h);generalize tri b l r k = m at *
       have hal:=qalloc wr (.cells (mA m au cu ad cd) 52);have HM:=lH (CBox.new wr 52 (mA m au cu ad cd));have HC3:=lH (HC.out.below hal);clear hal;go_upto_region 18 with (fail)
       generalize World.alloc wr _ = w7 at *;have HLT:Hid (∀ x p,F x = some p→p≠wr.heap.size):=fun x p hp e => by have:=HC.out.lt hp;omega
       have HME:Hid (M≠wr.heap.size):=by
        show M≠_
        have:=HC.out.map.lt;omega
       obtain ⟨E,hE⟩:∃ E,wr.heap.size = E:=⟨_,rfl⟩;rw [hE] at HM HLT HME ⊢;clear hE m0 m1 m2 hlt HC;have y2:=HM.out.cell (i:=2) (v:=.slice ad m.decls.length cd) rfl;have yl:=HM.out.lt;generalize wr = wp at *;go_wp2;clear y2 yl
       go_loopw [78] (fun jv wr => ∃ (j nj:Nat) (G:Int→Option Nat),j≤m.decls.length∧nj≤n + j∧jv = .int .i64 j∧Hid (Cols (R :: X) w5 wr M nj G (qJ b l r k j))∧Hid (Met G (qJ b l r k j))∧Hid (CBox wr E 52 (mA m au cu ad cd))∧Hid (∀ x p,G x = some p→p≠E)) (fun jv _ => m.decls.length - (intOf jv).toNat)
       case atStart => exact ⟨0,n,F,Nat.zero_le _,Nat.le_refl _,rfl,HC3,HMT,HM,HLT⟩
       case round =>
        obtain ⟨j,nj,G,hjl,hnj,rfl,HCJ,HMJ,HMB,HNE'⟩:=hrel;clear HC3 HM HLT HMT
        by_cases hj:j < m.decls.length
        ·have hd2:decide ((j:Int) < (m.decls.length:Int)) = true:=decide_eq_true (by omega)
         have hjr:(j:Int) < (m.decls.length:Int):=by omega
         obtain ⟨d,hdj⟩:∃ d,m.decls[j]? = some d:=⟨_,List.getElem?_eq_getElem hj⟩
         have HIN:Hid (inI d.id):=by
          have h1:=decl_ok (HVM.out.decl d (List.mem_of_getElem? hdj));show inI d.id
          unfold inI;omega
         obtain ⟨bd,xd,rfl,hbd,hcol⟩:=col_one HSI.out.mod.decls hdj (HSI.out.sm.decls d (List.mem_of_getElem? hdj)) (HSI.out.nodes d (List.mem_of_getElem? hdj));obtain ⟨bd',xd',and,cnd,asd,csd,hade,hbd',hxc,-⟩:=decls_elem (HSI.out.mod.decls.below HCJ.out.low) hdj
         injection hade with hade
         injection hade with hade1 hade2
         subst hade1;subst hade2;have HCOL:=lH hcol;have HNJ:=lH (HNX.out j d hdj);have HNO:=lH (HNN.out j d hdj);clear hcol hbd hdj;have c0:=hxc 0 (.int .i64 d.id) rfl;have c1:=hxc 1 (.int .i64 d.kind) rfl;have c2:=hxc 2 (.bool d.pub) rfl;have c3:=hxc 3 (.slice and d.names.length cnd) rfl;have c4:=hxc 4 (.bool d.doubt) rfl;have c5:=hxc 5 (.int .i64 d.body.kind) rfl;have c6:=hxc 6 (.string d.body.name) rfl;have c7:=hxc 7 (.string d.body.more) rfl;have c8:=hxc 8 (.int .i64 d.body.num) rfl
         have c9:=hxc 9 (.int .i64 d.body.den) rfl;have c10:=hxc 10 (.slice asd d.body.subs.length csd) rfl;rw [Nat.add_zero] at c0;clear hxc;have hal:=qalloc wr (.cells (dA d and cnd asd csd) 69);have HDB:=lH (CBox.new wr 69 (dA d and cnd asd csd));have HCJ2:=lH (HCJ.out.below hal);have HMB2:=lH (HMB.out.below hal);clear hal;go_upto_region 21 with (fail)
         clear c0 c1 c2 c3 c4 c5 c6 c7 c8 c9 c10;generalize World.alloc wr _ = w8 at *;have HLT2:Hid (∀ x p,G x = some p→p≠wr.heap.size):=fun x p hp e => by have:=HCJ.out.lt hp;omega
         have HDE:Hid (M≠wr.heap.size):=by
          show M≠_
          have:=HCJ.out.map.lt;omega
         obtain ⟨D,hD⟩:∃ D,wr.heap.size = D:=⟨_,rfl⟩;rw [hD] at HDB HLT2 HDE ⊢;clear hD hbd' HCJ HMB;have HVD:=HVM.out.dlen;have HLL:Hid (∀ x p,G x = some p→p < w8.heap.size):=fun x p hp => HCJ2.out.lt hp;have HZ8:Hid (E < w8.heap.size∧D < w8.heap.size):=⟨HMB2.out.lt,HDB.out.lt⟩;have z0:=HDB.out.cell (i:=0) (v:=.int .i64 d.id) rfl;have zl:=HDB.out.lt;have hlook:=HCJ2.out.map.look intKeyed Tryz.underlying125 (Tryz.zeroValue126 w8) (key_int HIN.out);rw [ptr_get] at hlook;obtain ⟨g,hg⟩:∃ g,G d.id = g:=⟨_,rfl⟩
         rw [hg] at hlook;have HG:=lH hg;clear hg
         cases g with
         | none =>
          simp only [Option.map_none] at hlook
          have hal9:=qalloc w8 (.cells #[.slice none 0 0,.slice none 0 0,.slice none 0 0] 127);have hb9:=CBox.new w8 127 #[.slice none 0 0,.slice none 0 0,.slice none 0 0];obtain ⟨w9,hput,hm9,hg9⟩:=(HCJ2.out.map.below hal9).put intKeyed Tryz.underlying125 (by unfold maxLen;omega) (key_int HIN.out) (.pointer (some ⟨w8.heap.size,0,none⟩));have HCF:=lH (HCJ2.out.fresh HG.out (Nat.le_refl _) hb9 hal9 hm9 hg9);have hM9:Mod [M] _ w9:=mod_of_grown hg9;have HMB9:=lH ((HMB2.out.below hal9).mod hM9 (by have:=HME.out;simp;omega))
          have HDB9:=lH ((HDB.out.below hal9).mod hM9 (by have:=HDE.out;simp;omega));clear hm9 hg9 hM9 hal9 hb9;go_upto_region 23 with (fail)
          clear z0 zl hlook hput;obtain ⟨G3,hG3⟩:∃ G3,pAdd G d.id w8.heap.size = G3:=⟨_,rfl⟩;obtain ⟨p,hp⟩:∃ p,w8.heap.size = p:=⟨_,rfl⟩;have HGP:Hid (G3 d.id = some p):=by show G3 d.id = some p;rw [← hG3,← hp];exact if_pos rfl
          have HGO:Hid (∀ x,x≠d.id→G3 x = G x):=fun x hx => by rw [← hG3];exact if_neg hx
          have HNE3:Hid (∀ x p,G3 x = some p→p≠E∧p≠D):=fun x q hq => by
           rw [← hG3] at hq;unfold pAdd at hq;split at hq
           ·injection hq with hq
            have:=HZ8.out;omega
           ·exact ⟨HNE'.out x q hq,HLT2.out x q hq⟩
          rw [hG3] at HCF;have HCK3:=HCF;have HMB3:=HMB9;have HDB3:=HDB9;clear hG3 hp HCF HMB9 HDB9 HCJ2 HMB2 HDB HNE' HLT2 HLL HZ8 HG;generalize w9 = wc at *
          have hlk:∀ W,Bw wc W→(Instr.lookup 125 (.map (some M)) (.int .i64 d.id) false).run Tryz.prog W = .ok (.pointer (some ⟨p,0,none⟩)) W:=fun W hW => by
           have h:=(HCK3.out.map.below hW).look intKeyed Tryz.underlying125 (Tryz.zeroValue126 W) (key_int HIN.out);rwa [ptr_get,HGP.out,Option.map_some] at h
          obtain ⟨p1,p2,⟨⟨u0,u1,u2,hpb,-,-,-⟩⟩⟩:=HCK3.out.box d.id p HGP.out;have hpe:=HNE3.out d.id p HGP.out
          have SW:Hid (∀ W:World,Bw wc W→(W.cell? ⟨D,0,none⟩ = some (.int .i64 d.id)∧W.cell? ⟨E,2,none⟩ = some (.slice (some ⟨bd,xd,none⟩) m.decls.length cd)∧(Instr.lookup 125 (.map (some M)) (.int .i64 d.id) false).run Tryz.prog W = .ok (.pointer (some ⟨p,0,none⟩)) W∧D < W.heap.size∧E < W.heap.size∧p < W.heap.size)):=lH (fun W hW => ⟨(HDB3.out.below hW).cell (i:=0) (v:=.int .i64 d.id) rfl,(HMB3.out.below hW).cell (i:=2) (v:=.slice (some ⟨bd,xd,none⟩) m.decls.length cd) rfl,hlk W hW,(HDB3.out.below hW).lt,(HMB3.out.below hW).lt,(hpb.below hW).lt⟩)
          have hb0:Bw wc wc.drew:=(Mod.refl [] wc).drew.below
          obtain ⟨u,hu⟩:∃ u,(#[u0,u1,u2]:Array Value)[k]? = some u:=by
           match k,hk with
           | 0,_ => exact ⟨_,rfl⟩
           | 1,_ => exact ⟨_,rfl⟩
           | 2,_ => exact ⟨_,rfl⟩
          have HPB:=lH (hpb.below hb0);have HC4:=lH ((HCK3.out.below hb0).put HGP.out hk HNO.out HCOL.out);have hmp:Mod [p] wc.drew (wc.drew.setCell ⟨p,k,none⟩ (.slice (some ⟨bd,xd + j * 11,none⟩) 1 1)):=(Mod.refl [p] wc.drew).setCell (by simp) _;have HMB4:=lH ((HMB3.out.below hb0).mod hmp (by simpa using fun e => hpe.1 e.symm));have HMT4:=lH (HMJ.out.add hk HNO.out HGO.out);rw [HNJ.out] at HC4 HMT4;have HNE4:Hid (∀ x p,G3 x = some p→p≠E):=fun x p hp => (HNE3.out x p hp).1
          clear hlk hpb p1 p2 hmp HCK3 HGO HNE3 HMB3 HDB3 HMJ HNJ HNO HCOL
          refine wp_region_noPanic (region_planG (fun W:World => W.cell? ⟨D,0,none⟩ = some (.int .i64 d.id)∧W.cell? ⟨E,2,none⟩ = some (.slice (some ⟨bd,xd,none⟩) m.decls.length cd)∧(Instr.lookup 125 (.map (some M)) (.int .i64 d.id) false).run Tryz.prog W = .ok (.pointer (some ⟨p,0,none⟩)) W∧D < W.heap.size∧E < W.heap.size∧p < W.heap.size) 14 [(true,0),(true,1),(true,2),(true,3),(true,4),(true,5),(true,6),(true,7),(true,8),(true,9),(true,10),(true,11),(true,12),(true,13)] mixedK (by kernel_rfl) (fun _ _ _ _ _ h => h) (SW.out _ hb0) ?_)
          iterate 12 (refine planG_take (v:=?_) rfl (by rfl) ?_ ?_;rotate_left;(focus (intro wq hSw;(try dsimp only at hSw);go_simp;(try rw [if_neg (by first | omega | (simp;omega))]);(try with_reducible rfl)));(try simp only [gA,gB,gC,Act.put,gD,gE,gF]))
          refine planG_take (v:=.slice (some ⟨bd,xd + j * 11,none⟩) 1 1) rfl (by rfl) ?_ ?_
          ·intro wq hSw
           clear hSw
           go_simp
           have hcd1:=HSI.out.mod.hd1;rw [show IntKind.i64.wrap ((j:Int) + 1) = ((j + 1:Nat):Int) by rw [IntWalk.i64_in _ (by omega)];rfl];simp only [Int.toNat_natCast]
           rw [if_pos (by omega),if_pos (by omega),if_pos (by omega),if_neg (by omega),show j + 1 - j = 1 by omega]
          (try simp only [gA,gB,gC,Act.put,gD,gE,gF])
          (refine planG_take (v:=?_) rfl (by rfl) ?_ ?_;rotate_left;(focus (intro wq hSw;(try dsimp only at hSw);go_simp;(try rw [if_neg (by first | omega | (simp;omega))]);(try with_reducible rfl)));(try simp only [gA,gB,gC,Act.put,gD,gE,gF]))
          refine planG_end ?_;simp only [List.drop_succ_cons,List.drop_zero]
          have pk:=HPB.out.cell (i:=k) (v:=u) hu;have fk:=HPB.out.frozen k;have pl:=HPB.out.lt;generalize hv0:wc.drew = v0 at *;clear hv0;go_wp2;refine NoPanic.normal ?_;go_wp2;go_roundw
          case rel => exact ⟨j + 1,nj + 1,G3,by omega,by omega,by go_num,HC4,HMT4,HMB4,HNE4⟩
          case measure => simp [intOf];omega
         | some p =>
          simp only [Option.map_some] at hlook
          go_upto_region 23 with (fail)
          clear z0 zl hlook;have HCK3:Hid (Cols (R :: X) w5 w8 M nj G (qJ b l r k j)):=HCJ2;have HGP:Hid (G d.id = some p):=HG;have HGO:Hid (∀ x,x≠d.id→G x = G x):=fun _ _ => rfl;have HNE3:Hid (∀ x p,G x = some p→p≠E∧p≠D):=fun x p hp => ⟨HNE'.out x p hp,HLT2.out x p hp⟩;have HMB3:=HMB2;have HDB3:=HDB;have hn3:=Nat.le_succ nj;clear HCJ2 HMB2 HDB HNE' HLT2 HLL HZ8 HG;generalize w8 = wc at *
          have hlk:∀ W,Bw wc W→(Instr.lookup 125 (.map (some M)) (.int .i64 d.id) false).run Tryz.prog W = .ok (.pointer (some ⟨p,0,none⟩)) W:=fun W hW => by
           have h:=(HCK3.out.map.below hW).look intKeyed Tryz.underlying125 (Tryz.zeroValue126 W) (key_int HIN.out);rwa [ptr_get,HGP.out,Option.map_some] at h
          obtain ⟨p1,p2,⟨⟨u0,u1,u2,hpb,-,-,-⟩⟩⟩:=HCK3.out.box d.id p HGP.out;have hpe:=HNE3.out d.id p HGP.out
          have SW:Hid (∀ W:World,Bw wc W→(W.cell? ⟨D,0,none⟩ = some (.int .i64 d.id)∧W.cell? ⟨E,2,none⟩ = some (.slice (some ⟨bd,xd,none⟩) m.decls.length cd)∧(Instr.lookup 125 (.map (some M)) (.int .i64 d.id) false).run Tryz.prog W = .ok (.pointer (some ⟨p,0,none⟩)) W∧D < W.heap.size∧E < W.heap.size∧p < W.heap.size)):=lH (fun W hW => ⟨(HDB3.out.below hW).cell (i:=0) (v:=.int .i64 d.id) rfl,(HMB3.out.below hW).cell (i:=2) (v:=.slice (some ⟨bd,xd,none⟩) m.decls.length cd) rfl,hlk W hW,(HDB3.out.below hW).lt,(HMB3.out.below hW).lt,(hpb.below hW).lt⟩)
          have hb0:Bw wc wc.drew:=(Mod.refl [] wc).drew.below
          obtain ⟨u,hu⟩:∃ u,(#[u0,u1,u2]:Array Value)[k]? = some u:=by
           match k,hk with
           | 0,_ => exact ⟨_,rfl⟩
           | 1,_ => exact ⟨_,rfl⟩
           | 2,_ => exact ⟨_,rfl⟩
          have HPB:=lH (hpb.below hb0);have HC4:=lH ((HCK3.out.below hb0).put HGP.out hk HNO.out HCOL.out);have hmp:Mod [p] wc.drew (wc.drew.setCell ⟨p,k,none⟩ (.slice (some ⟨bd,xd + j * 11,none⟩) 1 1)):=(Mod.refl [p] wc.drew).setCell (by simp) _;have HMB4:=lH ((HMB3.out.below hb0).mod hmp (by simpa using fun e => hpe.1 e.symm));have HMT4:=lH (HMJ.out.add hk HNO.out HGO.out);rw [HNJ.out] at HC4 HMT4;have HNE4:Hid (∀ x p,G x = some p→p≠E):=fun x p hp => (HNE3.out x p hp).1
          clear hlk hpb p1 p2 hmp HCK3 HGO HNE3 HMB3 HDB3 HMJ HNJ HNO HCOL
          refine wp_region_noPanic (region_planG (fun W:World => W.cell? ⟨D,0,none⟩ = some (.int .i64 d.id)∧W.cell? ⟨E,2,none⟩ = some (.slice (some ⟨bd,xd,none⟩) m.decls.length cd)∧(Instr.lookup 125 (.map (some M)) (.int .i64 d.id) false).run Tryz.prog W = .ok (.pointer (some ⟨p,0,none⟩)) W∧D < W.heap.size∧E < W.heap.size∧p < W.heap.size) 14 [(true,0),(true,1),(true,2),(true,3),(true,4),(true,5),(true,6),(true,7),(true,8),(true,9),(true,10),(true,11),(true,12),(true,13)] mixedK (by kernel_rfl) (fun _ _ _ _ _ h => h) (SW.out _ hb0) ?_)
          iterate 12 (refine planG_take (v:=?_) rfl (by rfl) ?_ ?_;rotate_left;(focus (intro wq hSw;(try dsimp only at hSw);go_simp;(try rw [if_neg (by first | omega | (simp;omega))]);(try with_reducible rfl)));(try simp only [gA,gB,gC,Act.put,gD,gE,gF]))
          refine planG_take (v:=.slice (some ⟨bd,xd + j * 11,none⟩) 1 1) rfl (by rfl) ?_ ?_
          ·intro wq hSw
           clear hSw
           go_simp
           have hcd1:=HSI.out.mod.hd1;rw [show IntKind.i64.wrap ((j:Int) + 1) = ((j + 1:Nat):Int) by rw [IntWalk.i64_in _ (by omega)];rfl];simp only [Int.toNat_natCast]
           rw [if_pos (by omega),if_pos (by omega),if_pos (by omega),if_neg (by omega),show j + 1 - j = 1 by omega]
          (try simp only [gA,gB,gC,Act.put,gD,gE,gF])
          (refine planG_take (v:=?_) rfl (by rfl) ?_ ?_;rotate_left;(focus (intro wq hSw;(try dsimp only at hSw);go_simp;(try rw [if_neg (by first | omega | (simp;omega))]);(try with_reducible rfl)));(try simp only [gA,gB,gC,Act.put,gD,gE,gF]))
          refine planG_end ?_;simp only [List.drop_succ_cons,List.drop_zero]
          have pk:=HPB.out.cell (i:=k) (v:=u) hu;have fk:=HPB.out.frozen k;have pl:=HPB.out.lt;generalize hv0:wc.drew = v0 at *;clear hv0;go_wp2;refine NoPanic.normal ?_;go_wp2;go_roundw
          case rel => exact ⟨j + 1,nj,G,by omega,by omega,by go_num,HC4,HMT4,HMB4,HNE4⟩
          case measure => simp [intOf];omega
        ·have hd2:decide ((j:Int) < (m.decls.length:Int)) = false:=decide_eq_false (by omega)
         have HDL:=HVM.out.dlen;have HE2:=HNE.out j (by omega);rw [HE2] at HCJ HMJ;clear HE2;go_wp2;go_roundw
         case rel => exact ⟨k + 1,nj,G,by omega,by omega,by go_num,HCJ,HMJ⟩
         case measure => simp [intOf];omega
      ·have hd:decide ((k:Int) < (3:Int)) = false:=decide_eq_false (by omega)
       have hk33:k = 3:=by omega
       subst hk33;have HQI:=lH (cols_ids HC.out HMT.out);have HII:=lH (id_in HVB.out HVL.out HVR.out);have HIL:=lH (ids_len HVB.out HVL.out HVR.out);have HPW:=lH (idsM_spec b l r).1;obtain ⟨I,hI⟩:∃ I,idsM b l r = I:=⟨_,rfl⟩;rw [hI] at HQI HII HIL HPW HEQ2;have HIE:=lH hI;clear hI HMT HVK hk hk3;have a0:=(GB5.out.below HC.out.low).cell (i:=0) (v:=.string b.label) rfl;have q1:=(GB5.out.below HC.out.low).lt;have hal:=qalloc wr (.cells #[.string b.label,.slice a5 U.length c5,.slice none 0 0] 52)
       have HMG:=lH (CBox.new wr 52 #[.string b.label,.slice a5 U.length c5,.slice none 0 0]);have HCm:=lH (HC.out.below hal);have HAL:=lH hal;clear hal;go_upto_region 27 with (fail)
       generalize World.alloc wr _ = w7 at *;obtain ⟨BM,hBM⟩:∃ BM,wr.heap.size = BM:=⟨_,rfl⟩;rw [hBM] at HMG ⊢;have HBM:Hid (BM = wr.heap.size):=hBM.symm;clear hBM a0 q1;obtain ⟨D,hown,hDn,hDs⟩:=HCm.out.map.keys HPW.out HQI.out;have HDS:=lH hDs;have HcK:=lH (Tryz.maps_KeysI (some M) w7);have HcS:=lH (Tryz.slices_Sorted_keysI M n D heldE w7 hown (by unfold maxLen;omega) (by omega));clear hown hDn hDs;generalize wr = wl at *;go_wp2_with (fail)
       refine HcK.out.mono ?_;rintro e w8 ⟨rfl,rfl⟩;go_wp2_with (fail)
       refine HcS.out.mono ?_;rintro e w9 ⟨sv,ss,rfl,hperm,hrow,-,hb9⟩;have hssl:ss.length = I.length:=by rw [← HDS.out ss hperm,List.length_mergeSort]
       rw [HDS.out ss hperm,hssl] at hrow;obtain ⟨sa,sc,rfl⟩:=owns_val hrow;have h79:=qtrans (qalloc w7 (.cells #[.map (some M)] 125)) hb9;have hbas:=(qalloc w7 (.cells #[.map (some M)] 125)).size;have HSB:Hid (∀ k,(Value.slice sa I.length sc).ownBlock = some k→k≠BM):=fun k hk => by have h1:=owns_block hrow hk;have h2:=HMG.out.lt;omega
       have HIR:=lH hrow;have HMG9:=lH (HMG.out.below h79);have HL9:=lH (HAL.out.trans (h79.mono HAL.out.size));have HW9:Hid (Bw w5 w9):=HC.out.low.trans (HL9.out.mono HC.out.low.size);have HBM9:Hid (BM < w9.heap.size):=HMG9.out.lt;clear hssl hperm hrow hb9 h79 hbas HcK HcS HDS HMG HCm HAL HPW;go_wp2
       go_loopw [118] (fun iv wr => ∃ (i:Nat) (v:Value),i≤I.length∧iv = .int .i64 i∧Hid (∀ j y,j < i→I[j]? = some y→mergeDErr (findD b.decls y) (findD l.decls y) (findD r.decls y) = 0)∧Hid (CBox wr BM 52 #[.string b.label,.slice a5 U.length c5,v])∧Hid (OwnT wr (BM :: R :: X) w9.heap.size 69 11 declT v (declsM b.decls l.decls r.decls (I.take i)))∧Hid (Mod [BM] w9 wr)) (fun iv _ => I.length - (intOf iv).toNat)
       case atStart => exact ⟨0,.slice none 0 0,Nat.zero_le _,rfl,fun j y hj => absurd hj (Nat.not_lt_zero _),HMG9,OwnT.nil _ _ _ _ _ _,Mod.refl _ _⟩
       case round =>
        obtain ⟨i,v,hil,rfl,HN,HBX,HOW,HMD⟩:=hrel;clear HMG9;have hlo:Bw wl wr:=HL9.out.trans (HMD.out.upto HL9.out.size (fun k hk => by have:=HBM.out;simp at hk;omega));have h5w:Bw w5 wr:=HC.out.low.trans (hlo.mono HC.out.low.size);have hwr:Bw w wr:=HW5.out.trans (h5w.mono HW5.out.size);have HBRw:=lH (HBR5.out.below h5w)
        by_cases hi:i < I.length
        ·have hd2:decide ((i:Int) < (I.length:Int)) = true:=decide_eq_true (by omega)
         have hir:(i:Int) < (I.length:Int):=by omega
         obtain ⟨x,hx⟩:∃ x,I[i]? = some x:=⟨_,List.getElem?_eq_getElem hi⟩;have hxm:x∈I:=List.mem_of_getElem? hx
         obtain ⟨p,hp⟩:∃ p,F x = some p:=by
          have h1:=(HQI.out x).1 hxm;unfold ptrF at h1;rw [Option.isSome_map] at h1;exact Option.isSome_iff_exists.1 h1
         have hcr:=HC.out.below hlo;have hlook:=hcr.map.look intKeyed Tryz.underlying125 (Tryz.zeroValue126 wr) (key_int (HII.out x hxm));rw [ptr_get,hp,Option.map_some] at hlook;obtain ⟨ab,cb,al,cl,ar,cr,hpb,hc1,hc2,hob,hol,hor⟩:=hcr.three hp;obtain ⟨-,a9,c9,he9,-,-,h39⟩:=owns_row (owns_mod HIR.out HMD.out (fun k hk hx => HSB.out k hk (by simpa using hx)))
         injection he9 with he91 he92 he93
         subst he91;obtain ⟨ib,io,rfl,hib,hic⟩:=h39 (by omega);have hx0:=hic i (.int .i64 x) (by rw [List.getElem?_map,hx];rfl);have HPB:=lH hpb;have hvge:∀ g,v.ownBlock = some g→w5.heap.size≤g∧g < wr.heap.size:=fun g hg => ⟨Nat.le_trans HW9.out.size (HOW.out.ge hg),HOW.out.lt hg⟩;have hBM5:w5.heap.size≤BM:=by have:=HBM.out;have:=HC.out.low.size;omega
         have HX9:Hid (∀ k,k∈v.ownBlock.toList ++ (BM :: R :: X)→k < wr.heap.size):=fun k hk => by
          rcases List.mem_append.1 hk with hk | hk
          ·exact (hvge k (by simpa using hk)).2
          ·rcases List.mem_cons.1 hk with rfl | hk
           ·exact HBX.out.lt
           ·rcases List.mem_cons.1 hk with rfl | hk
            ·exact HBRw.out.lt
            ·exact Nat.lt_of_lt_of_le (HX.out k hk) hwr.size
         have HOB:=lH ((((hob.more hBM5).owned v (fun g hg => (hvge g hg).1))).below h5w);have HOL:=lH ((((hol.more hBM5).owned v (fun g hg => (hvge g hg).1))).below h5w);have HOR:=lH ((((hor.more hBM5).owned v (fun g hg => (hvge g hg).1))).below h5w)
         have HNX:Hid (mergeDErr (findD b.decls x) (findD l.decls x) (findD r.decls x) = 0→∀ j y,j < i + 1→I[j]? = some y→mergeDErr (findD b.decls y) (findD l.decls y) (findD r.decls y) = 0):=fun h j y hj hy => by
          by_cases e:j = i
          ·subst e;rw [hx] at hy;injection hy with hy;subst hy;exact h
          ·exact HN.out j y (by omega) hy
         have HEX:Hid (mergeDErr (findD b.decls x) (findD l.decls x) (findD r.decls x)≠0→mergeMErr b l r = mergeDErr (findD b.decls x) (findD l.decls x) (findD r.decls x)):=fun h => by
          have h1:=declsErr_first hx HN.out h;rw [HEQ2.out,h1,if_neg h]
         have HDN:=lH (declsM_next (b:=b.decls) (l:=l.decls) (r:=r.decls) hx);have HLN:Hid ((declsM b.decls l.decls r.decls (I.take i)).length≤300):=Nat.le_trans (declsM_len _ _ _ _) (by rw [List.length_take];have:=HIL.out;omega);clear hx hxm hp hcr hpb hob hol hor hic h39 hBM5 hvge he92 he93 HN;have HM1:=lH (fun W (h:Bw wr W) => mergeDecl_any _ _ _ ab al ar cb cl cr (v.ownBlock.toList ++ (BM :: R :: X)) W (fun k hk => Nat.lt_of_lt_of_le (HX9.out k hk) h.size) (HOB.out.below h) (HOL.out.below h) (HOR.out.below h) hc1 hc2)
         have HM2:=lH (fun W N (h:Bw wr W) (hN:wr.heap.size≤N) (hN2:N < W.heap.size) => mergeDecl_any _ _ _ ab al ar cb cl cr (N :: (v.ownBlock.toList ++ (BM :: R :: X))) W (fun k hk => by rcases List.mem_cons.1 hk with rfl | hk;exact hN2;exact Nat.lt_of_lt_of_le (HX9.out k hk) h.size) ((HOB.out.more hN).below h) ((HOL.out.more hN).below h) ((HOR.out.more hN).below h) hc1 hc2);generalize findD b.decls x = ob at *;generalize findD l.decls x = ol at *;generalize findD r.decls x = or at *;obtain ⟨q,hq⟩:∃ q,mergeDErr ob ol or = q:=⟨_,rfl⟩
         obtain ⟨g,hg⟩:∃ g,mHas ob ol or = g:=⟨_,rfl⟩;obtain ⟨D,hD⟩:∃ D,mOut ob ol or = D:=⟨_,rfl⟩;have HMT:Hid (g = true→mergeD ob ol or = some D):=fun h => by rw [← hD];exact mHas_true (by rw [hg,h])
         have HMF:Hid (g = false→q = 0→mergeD ob ol or = none):=fun h h0 => mHas_false (by rw [hg,h]) (by rw [hq,h0]);rw [hq] at HNX HEX
         replace HM1:Hid (∀ W ,Bw wr W→Calls Tryz.prog 99 #[.slice ab ob.toList.length cb,.slice al ol.toList.length cl,.slice ar or.toList.length cr] W fun e w9 => ∃ anD cnD asD csD,e = .returned (.tuple #[.agg #[.int .i64 D.id,.int .i64 D.kind,.bool D.pub,.slice anD D.names.length cnD,.bool D.doubt,.int .i64 D.body.kind,.string D.body.name,.string D.body.more,.int .i64 D.body.num,.int .i64 D.body.den,.slice asD D.body.subs.length csD],.bool g,.int .i64 q])∧DecX w9 (v.ownBlock.toList ++ (BM :: R :: X)) D anD cnD asD csD∧Bw W w9):=fun W h => (HM1.out W h).mono (fun e w9 ⟨⟨a1,a2,a3,a4,g1,g2,g3⟩⟩ => ⟨a1,a2,a3,a4,by rw [g1,hq,hg,hD];rfl,by rw [← hD];exact g2,g3⟩)
         replace HM2:Hid (∀ W N ,Bw wr W→wr.heap.size≤N→N < W.heap.size→Calls Tryz.prog 99 #[.slice ab ob.toList.length cb,.slice al ol.toList.length cl,.slice ar or.toList.length cr] W fun e w9 => ∃ anD cnD asD csD,e = .returned (.tuple #[.agg #[.int .i64 D.id,.int .i64 D.kind,.bool D.pub,.slice anD D.names.length cnD,.bool D.doubt,.int .i64 D.body.kind,.string D.body.name,.string D.body.more,.int .i64 D.body.num,.int .i64 D.body.den,.slice asD D.body.subs.length csD],.bool g,.int .i64 q])∧DecX w9 (N :: (v.ownBlock.toList ++ (BM :: R :: X))) D anD cnD asD csD∧Bw W w9):=fun W N h h1 h2 => (HM2.out W N h h1 h2).mono (fun e w9 ⟨⟨a1,a2,a3,a4,g1,g2,g3⟩⟩ => ⟨a1,a2,a3,a4,by rw [g1,hq,hg,hD];rfl,by rw [← hD];exact g2,g3⟩)
         clear hq hg hD;go_upto_region 31 with (fail)
         have SW:Hid (∀ W:World,Bw wr W→(W.cell? ⟨p,0,none⟩ = some (.slice ab ob.toList.length cb)∧W.cell? ⟨p,1,none⟩ = some (.slice al ol.toList.length cl)∧W.cell? ⟨p,2,none⟩ = some (.slice ar or.toList.length cr)∧p < W.heap.size)):=lH (fun W hW => ⟨(HPB.out.below hW).cell (i:=0) (v:=.slice ab ob.toList.length cb) rfl,(HPB.out.below hW).cell (i:=1) (v:=.slice al ol.toList.length cl) rfl,(HPB.out.below hW).cell (i:=2) (v:=.slice ar or.toList.length cr) rfl,(HPB.out.below hW).lt⟩)
         have hb0:Bw wr wr.drew:=(Mod.refl [] wr).drew.below;clear hlook hx0 hib HOB HOL HOR HPB
         go_cut [23,24,25] from 125 to 141 (fun u g9 e9 wx => ∃ N anD cnD asD csD,u = .pointer (some ⟨N,0,none⟩)∧g9 = .bool g∧e9 = .int .i64 q∧wr.heap.size≤N∧CBox wx N 69 (dA D anD cnD asD csD)∧DecX wx (v.ownBlock.toList ++ (BM :: R :: X)) D anD cnD asD csD∧Bw wr wx)
         case first =>
          refine wp_region_noPanic (region_planT (fun W:World => W.cell? ⟨p,0,none⟩ = some (.slice ab ob.toList.length cb)∧W.cell? ⟨p,1,none⟩ = some (.slice al ol.toList.length cl)∧W.cell? ⟨p,2,none⟩ = some (.slice ar or.toList.length cr)∧p < W.heap.size) (.take 0 (.take 1 (.take 2 (.take 3 (.take 4 (.take 5 (.take 6 (.take 7 (.take 8 (.take 9 (.take 10 (.take 11 (.two 12 17 (.take 13 (.take 14 (.take 15 (.take 16 (.one 17 (.one 18 (.one 19 (.one 20 .done)))))))) (.one 12 (.take 13 (.take 14 (.take 15 (.take 16 (.one 18 (.one 19 (.one 20 .done))))))))))))))))))))) mixedK (by kernel_rfl) (fun _ _ _ _ _ h => h) (SW.out _ hb0) ?_)
          iterate 12 (refine planT_take (v:=?_) rfl (by rfl) ?_ ?_;rotate_left;(focus (intro wq hSw;(try dsimp only at hSw);go_simp;(try rw [if_neg (by first | omega | (simp;omega))]);(try with_reducible rfl)));(try simp only [gA,gB,gC,Act.put,gD,gE,gF]))
          generalize wr.drew = v0 at *;refine planT_two ?_ ?_
          ·skip
           refine planT_one rfl (by rfl) (fun K hK => ?_);go_simp;refine (HM1.out _ hb0).mono ?_;rintro r1 v1 ⟨anD,cnD,asD,csD,rfl,hdx,hq1⟩
           (try go_simp)
           have hb1:=qtrans hb0 hq1;refine hK.out _ _ (SW.out _ hb1) ?_;clear hK K;(try simp only [gA,gB,gC,Act.put,gD,gE,gF])
           iterate 4 (refine planT_take (v:=?_) rfl (by rfl) ?_ ?_;rotate_left;(focus (intro wq hSw;(try dsimp only at hSw);go_simp;(try rw [if_neg (by first | omega | (simp;omega))]);(try with_reducible rfl)));(try simp only [gA,gB,gC,Act.put,gD,gE,gF]))
           have ax:=CBox.new v1 69 dZ;have hbx:=qtrans hb1 (qalloc v1 (.cells dZ 69));have hdx:=(hdx.more (Nat.le_refl v1.heap.size)).below (qalloc v1 (.cells dZ 69));have hN2:wr.heap.size≤v1.heap.size:=hb1.size;refine planT_one rfl (by rfl) (fun K hK => ?_);go_simp;refine hK.out _ _ (SW.out _ hbx) ?_;clear hK K;(try simp only [gA,gB,gC,Act.put,gD,gE,gF]);generalize World.alloc v1 _ = v2 at *;generalize v1.heap.size = N at *;obtain ⟨z0,z1,z2,z3,z4,z5,z6,z7,z8,z9,z10,zl⟩:=cells11 ax
           obtain ⟨fz0,fz1,fz2,fz3,fz4,fz5,fz6,fz7,fz8,fz9,fz10⟩:=frozen11 ax;obtain ⟨HC9,HM9⟩:=CBox.putD ax D anD cnD asD csD
           have hbz:Bw wr (((((((((((v2.setCell ⟨N,0,none⟩ (.int .i64 D.id)).setCell ⟨N,1,none⟩ (.int .i64 D.kind)).setCell ⟨N,2,none⟩ (.bool D.pub)).setCell ⟨N,3,none⟩ (.slice anD D.names.length cnD)).setCell ⟨N,4,none⟩ (.bool D.doubt)).setCell ⟨N,5,none⟩ (.int .i64 D.body.kind)).setCell ⟨N,6,none⟩ (.string D.body.name)).setCell ⟨N,7,none⟩ (.string D.body.more)).setCell ⟨N,8,none⟩ (.int .i64 D.body.num)).setCell ⟨N,9,none⟩ (.int .i64 D.body.den)).setCell ⟨N,10,none⟩ (.slice asD D.body.subs.length csD)):=hbx.trans (HM9.upto hbx.size (by intro k hk;simp at hk;omega))
           have hdz:=(hdx.mod (HM9.mono inC)).fewer inT;refine planT_one rfl (by rfl) (fun K hK => ?_);go_simp;refine hK.out _ _ (SW.out _ hbz) ?_;clear hK K;(try simp only [gA,gB,gC,Act.put,gD,gE,gF]);generalize World.setCell _ ⟨N,10,none⟩ _ = vz at *;clear zl z0 fz0 z1 fz1 z2 fz2 z3 fz3 z4 fz4 z5 fz5 z6 fz6 z7 fz7 z8 fz8 z9 fz9 z10 fz10;refine planT_one rfl (by rfl) (fun K hK => ?_);go_simp;refine hK.out _ _ (SW.out _ hbz) ?_;clear hK K;(try simp only [gA,gB,gC,Act.put,gD,gE,gF])
           refine planT_one rfl (by rfl) (fun K hK => ?_);go_simp;refine hK.out _ _ (SW.out _ hbz) ?_;clear hK K;(try simp only [gA,gB,gC,Act.put,gD,gE,gF]);refine planT_done ?_;refine NoPanic.normal ?_;go_wp2;go_meet
           case rel => exact ⟨N,anD,cnD,asD,csD,rfl,rfl,rfl,hN2,HC9,hdz,hbz⟩
          ·skip
           have ax:=CBox.new v0 69 dZ;have hb1:=qtrans hb0 (qalloc v0 (.cells dZ 69));have hN2:wr.heap.size≤v0.heap.size:=hb0.size;have hNl:v0.heap.size < (v0.alloc (.cells dZ 69)).heap.size:=ax.lt;refine planT_one rfl (by rfl) (fun K hK => ?_);go_simp;refine hK.out _ _ (SW.out _ hb1) ?_;clear hK K;(try simp only [gA,gB,gC,Act.put,gD,gE,gF]);generalize hv1:v0.alloc (.cells dZ 69) = v1 at *;generalize v0.heap.size = N at *;clear hv1;refine planT_one rfl (by rfl) (fun K hK => ?_);go_simp;refine (HM2.out _ N hb1 hN2 hNl).mono ?_
           rintro r1 v2 ⟨anD,cnD,asD,csD,rfl,hdx,hq1⟩
           (try go_simp)
           have hbx:=qtrans hb1 hq1;refine hK.out _ _ (SW.out _ hbx) ?_;clear hK K;(try simp only [gA,gB,gC,Act.put,gD,gE,gF])
           iterate 4 (refine planT_take (v:=?_) rfl (by rfl) ?_ ?_;rotate_left;(focus (intro wq hSw;(try dsimp only at hSw);go_simp;(try rw [if_neg (by first | omega | (simp;omega))]);(try with_reducible rfl)));(try simp only [gA,gB,gC,Act.put,gD,gE,gF]))
           have ax:=ax.below hq1;obtain ⟨z0,z1,z2,z3,z4,z5,z6,z7,z8,z9,z10,zl⟩:=cells11 ax;obtain ⟨fz0,fz1,fz2,fz3,fz4,fz5,fz6,fz7,fz8,fz9,fz10⟩:=frozen11 ax;obtain ⟨HC9,HM9⟩:=CBox.putD ax D anD cnD asD csD
           have hbz:Bw wr (((((((((((v2.setCell ⟨N,0,none⟩ (.int .i64 D.id)).setCell ⟨N,1,none⟩ (.int .i64 D.kind)).setCell ⟨N,2,none⟩ (.bool D.pub)).setCell ⟨N,3,none⟩ (.slice anD D.names.length cnD)).setCell ⟨N,4,none⟩ (.bool D.doubt)).setCell ⟨N,5,none⟩ (.int .i64 D.body.kind)).setCell ⟨N,6,none⟩ (.string D.body.name)).setCell ⟨N,7,none⟩ (.string D.body.more)).setCell ⟨N,8,none⟩ (.int .i64 D.body.num)).setCell ⟨N,9,none⟩ (.int .i64 D.body.den)).setCell ⟨N,10,none⟩ (.slice asD D.body.subs.length csD)):=hbx.trans (HM9.upto hbx.size (by intro k hk;simp at hk;omega))
           have hdz:=(hdx.mod (HM9.mono inC)).fewer inT;refine planT_one rfl (by rfl) (fun K hK => ?_);go_simp;refine hK.out _ _ (SW.out _ hbz) ?_;clear hK K;(try simp only [gA,gB,gC,Act.put,gD,gE,gF]);generalize World.setCell _ ⟨N,10,none⟩ _ = vz at *;clear zl z0 fz0 z1 fz1 z2 fz2 z3 fz3 z4 fz4 z5 fz5 z6 fz6 z7 fz7 z8 fz8 z9 fz9 z10 fz10;refine planT_one rfl (by rfl) (fun K hK => ?_);go_simp;refine hK.out _ _ (SW.out _ hbz) ?_;clear hK K;(try simp only [gA,gB,gC,Act.put,gD,gE,gF])
           refine planT_one rfl (by rfl) (fun K hK => ?_);go_simp;refine hK.out _ _ (SW.out _ hbz) ?_;clear hK K;(try simp only [gA,gB,gC,Act.put,gD,gE,gF]);refine planT_done ?_;refine NoPanic.normal ?_;go_wp2;go_meet
           case rel => exact ⟨N,anD,cnD,asD,csD,rfl,rfl,rfl,hN2,HC9,hdz,hbz⟩
         case rest =>
         obtain ⟨N,anD,cnD,asD,csD,rfl,rfl,rfl,hNr,hn3,hd3,hb3⟩:=hcut;have HN3:=lH hn3;have HD3:=lH hd3;have HBRc:=lH (HBRw.out.below hb3);have HBXc:=lH (HBX.out.below hb3);have HOWc:=lH (HOW.out.below hb3);have HWc:Hid (Bw w wc):=hwr.trans (hb3.mono hwr.size);have HMDc:Hid (Mod [BM] w9 wc):=HMD.out.trans (Mod.of hb3);have HNr:=lH hNr;clear hNr hn3 hd3 hb3 hb0 SW HBRw HBX HOW hwr h5w hlo HMD HX9 HM1 HM2;have hil3:=HIL.out
         by_cases h0:q = 0
         ·have hz:(q != 0) = false:=by simp [h0]
          have HN4:=lH (HNX.out h0);have HMF2:Hid (g = false→mergeD ob ol or = none):=fun h => HMF.out h h0;clear HNX HEX HMF h0
          cases g with
          | false =>
           rw [HMF2.out rfl,Option.toList_none,List.append_nil] at HDN;go_wp2;go_roundw
           case rel => exact ⟨i + 1,v,by omega,by go_num,HN4,HBXc,by rw [HDN.out];exact HOWc,HMDc⟩
           case measure => simp [intOf];omega
          | true =>
           rw [HMT.out rfl,Option.toList_some] at HDN;obtain ⟨av,cv,hve,-,-⟩:=HOWc.out.val;have HVE:=lH hve;clear hve;have y2:=HBXc.out.cell (i:=2) (v:=v) rfl;have yl:=HBXc.out.lt;obtain ⟨n0,n1,n2,n3,n4,n5,n6,n7,n8,n9,n10,nl⟩:=cells11 HN3.out;have hal:=qalloc wc (.cells (dA D anD cnD asD csD) 69);have HRB:=lH (CBox.new wc 69 (dA D anD cnD asD csD));have HOA:=lH (HOWc.out.below hal);have HBA:=lH (HBXc.out.below hal);have HDA:=lH (HD3.out.below hal)
           have HMA:Hid (Mod [BM] w9 (wc.alloc (.cells (dA D anD cnD asD csD) 69))):=HMDc.out.trans (Mod.of hal);have hsz:w9.heap.size≤(wc.alloc (.cells (dA D anD cnD asD csD) 69)).heap.size:=HMA.out.size;have hlen:=HLN.out;clear hal HBXc HOWc HMDc HD3 HN3;have HB9:Hid (BM < w9.heap.size):=HBM9
           go_wp2_with (at_builtin;refine wpList_decl (v:=v) (X:=BM :: R :: X) (L:=declsM b.decls l.decls r.decls (I.take i)) (B:=wc.heap.size) (d:=D) (an:=anD) (cn:=cnD) (sa:=asD) (cs:=csD) rfl _ _ rfl rfl HOA.out rfl HRB.out HDA.out (by omega) hsz ?_;rintro v' w' ho7 hm7 ⟨a7,c7,hv7⟩ hb7;have HB7:=lH (HBA.out.mod hm7 (fun hk => by have h1:=HOA.out.ge (by simpa using hk:v.ownBlock = some BM);have h2:=HB9.out;omega));have HM7:Hid (Mod [BM] w9 w'):=HMA.out.after hm7 (fun g hg => HOA.out.ge (by simpa using hg));have k2:=HB7.out.cell (i:=2) (v:=v) rfl;have kf:=HB7.out.frozen 2;have kl:=HB7.out.lt;have HO7:=lH ho7;clear ho7 hm7)
           have hvv:v' = .slice a7 ((declsM b.decls l.decls r.decls (I.take i)).length + 1) c7:=by rw [hv7,List.length_append];rfl
           rw [← hvv];have hRl:R < w9.heap.size:=Nat.lt_of_lt_of_le HBR5.out.lt HW9.out.size
           have hge:∀ g,v'.ownBlock = some g→g ∉ BM :: R :: X:=fun g hg hx => by
            have h1:=HO7.out.ge hg
            rcases List.mem_cons.1 hx with rfl | hx
            ·have:=HB9.out;omega
            ·rcases List.mem_cons.1 hx with rfl | hx
             ·omega
             ·have h2:=HX.out g hx;have h3:=HW5.out.size;have h4:=HW9.out.size;omega
           refine ⟨⟨i + 1,v',by omega,rfl,HN4,HB7.out.set 2 v',?_,HM7.out.trans ((Mod.refl [BM] w').setCell (by simp) v')⟩,by simp [intOf];omega⟩;show OwnT _ _ _ _ _ _ _ _
           rw [HDN.out];exact HO7.out.mod ((Mod.refl (BM :: R :: X) w').setCell (by simp) v') hge
         ·have hz:(q != 0) = true:=by simp [h0]
          have HE:=lH (HEX.out h0);have HQ:=lH h0;clear HNX HEX HMF HMT h0;obtain ⟨o0,o1,o2,ol9⟩:=cells3 HBRc.out;obtain ⟨fo0,fo1,fo2⟩:=frozen3 HBRc.out
          (try dsimp only)
          repeat (first | go_values | go_skip | go_guarded | go_step | go_upon | go_in)
          (try simp only [Exit.inBlock,Exit.then])
          clear o0 fo0 o1 fo1 o2 fo2 ol9;obtain ⟨HC9,HM9⟩:=CBox.three (HBRc.out) (.string ⟨#[]⟩) (.slice none 0 0) (.slice none 0 0);generalize World.setCell _ ⟨R,2,none⟩ _ = WZ at *;obtain ⟨r0,r1,r2,-⟩:=cells3 HC9;refine bodyPost_ret (by simp [results,Tryz.results45,go_sem,r0,r1,r2];try rfl) rfl ?_;have hdZ:Bw w WZ:=(HWc.out).trans (HM9.upto (HWc.out).size (by intro k hk;simp at hk;have:=HSZ.out;omega));exact MergedM.bad HE.out HQ.out hdZ
        ·have hd2:decide ((i:Int) < (I.length:Int)) = false:=decide_eq_false (by omega)
         have HE2:Hid (mergeMErr b l r = if (declsM b.decls l.decls r.decls I).length≤100 then 0 else 4):=by
          show mergeMErr b l r = _
          rw [HEQ2.out,if_pos (declsErr_all (fun j y hj => HN.out j y (by have:=(List.getElem?_eq_some_iff.1 hj).1;omega) hj))]
         have HOI:=HOW.out;rw [List.take_of_length_le (by omega)] at HOI;have HLN:Hid ((declsM b.decls l.decls r.decls I).length≤300):=Nat.le_trans (declsM_len _ _ _ _) HIL.out;have HOE:Hid (outM b l r = ⟨b.label,U,declsM b.decls l.decls r.decls I⟩):=by show outM b l r = _;unfold outM;rw [HU.out,HIE.out]
         have HWr:=lH hwr;have HUw:=lH (HUR.out.below h5w);clear HN HOW hwr h5w hlo;generalize declsM b.decls l.decls r.decls I = DD at *;obtain ⟨av,cv,rfl,hav1,hav2⟩:=HOI.val;have y2:=HBX.out.cell (i:=2) (v:=.slice av DD.length cv) rfl;have yl:=HBX.out.lt
         by_cases h100:100 < DD.length
         ·have hd3:decide ((100:Int) < (DD.length:Int)) = true:=decide_eq_true (by omega)
          have HE:Hid (mergeMErr b l r = 4):=by show _ = _;rw [HE2.out,if_neg (by omega)]
          clear h100 HOI;obtain ⟨o0,o1,o2,ol9⟩:=cells3 HBRw.out;obtain ⟨fo0,fo1,fo2⟩:=frozen3 HBRw.out
          (try dsimp only)
          repeat (first | go_values | go_skip | go_guarded | go_step | go_upon | go_in)
          (try simp only [Exit.inBlock,Exit.then])
          clear o0 fo0 o1 fo1 o2 fo2 ol9;obtain ⟨HC9,HM9⟩:=CBox.three (HBRw.out) (.string ⟨#[]⟩) (.slice none 0 0) (.slice none 0 0);generalize World.setCell _ ⟨R,2,none⟩ _ = WZ at *;obtain ⟨r0,r1,r2,-⟩:=cells3 HC9;refine bodyPost_ret (by simp [results,Tryz.results45,go_sem,r0,r1,r2];try rfl) rfl ?_;have hdZ:Bw w WZ:=(HWr.out).trans (HM9.upto (HWr.out).size (by intro k hk;simp at hk;have:=HSZ.out;omega));exact MergedM.bad HE.out (by decide) hdZ
         ·have hd3:decide ((100:Int) < (DD.length:Int)) = false:=decide_eq_false (by omega)
          have HE:Hid (mergeMErr b l r = 0):=by show _ = _;rw [HE2.out,if_pos (by omega)]
          have HOX:=lH HOI;clear h100 HOI;have y0:=HBX.out.cell (i:=0) (v:=.string b.label) rfl;have y1:=HBX.out.cell (i:=1) (v:=.slice a5 U.length c5) rfl;obtain ⟨o0,o1,o2,ol9⟩:=cells3 HBRw.out;obtain ⟨fo0,fo1,fo2⟩:=frozen3 HBRw.out
          (try dsimp only)
          repeat (first | go_values | go_skip | go_guarded | go_step | go_upon | go_in)
          (try simp only [Exit.inBlock,Exit.then])
          clear o0 fo0 o1 fo1 o2 fo2 ol9 y0 y1 y2 yl;obtain ⟨HC9,HM9⟩:=CBox.three HBRw.out (.string b.label) (.slice a5 U.length c5) (.slice av DD.length cv);generalize World.setCell _ ⟨R,2,none⟩ _ = WZ at *;obtain ⟨r0,r1,r2,-⟩:=cells3 HC9;refine bodyPost_ret (by simp [results,Tryz.results45,go_sem,r0,r1,r2];try rfl) rfl ?_;have hdZ:Bw w WZ:=HWr.out.trans (HM9.upto HWr.out.size (by intro k hk;simp at hk;have:=HSZ.out;omega));have hmz:Mod (R :: X) wr WZ:=HM9.mono inC
          have hRl:R < w9.heap.size:=Nat.lt_of_lt_of_le HBR5.out.lt HW9.out.size;have hown:=(HOX.out.fewer (Y:=R :: X) inT)
          have hge:∀ g,(Value.slice av DD.length cv).ownBlock = some g→g ∉ R :: X:=fun g hg hx => by
           have h1:=HOX.out.ge hg
           rcases List.mem_cons.1 hx with rfl | hx
           ·omega
           ·have h2:=HX.out g hx;have h3:=HW5.out.size;have h4:=HW9.out.size;omega
          have hrd:=((hown.reads hge).mod hmz).fewer (Y:=X) inT;have hru:=(HUw.out.mod hmz).fewer (Y:=X) inT;have hfin:=MergedM.good HE.out (by rw [HOE.out];exact ⟨hru,hrd,hu51,hu52,hav1,hav2⟩) hdZ;rw [HOE.out] at hfin;exact hfin
    ·have hz:(q != 0) = true:=by simp [h0]
     have HE:Hid (mergeMErr b l r = q):=by
      show mergeMErr b l r = q
      rw [HEQ.out,← HQE.out];unfold usesErrM;have h:=HQE.out;unfold usesErrM at h;split
      ·rename_i h20
       rw [if_pos h20] at h;split
       ·rfl
       ·rename_i had
        rw [if_neg had] at h;exact absurd h.symm h0
      ·rfl
     have HQ:=lH h0;clear HEQ HQE h0 hu5 hu51 hu52;obtain ⟨o0,o1,o2,ol9⟩:=cells3 HBR5.out;obtain ⟨fo0,fo1,fo2⟩:=frozen3 HBR5.out
     (try dsimp only)
     repeat (first | go_values | go_skip | go_guarded | go_step | go_upon | go_in)
     (try simp only [Exit.inBlock,Exit.then])
     clear o0 fo0 o1 fo1 o2 fo2 ol9;obtain ⟨HC9,HM9⟩:=CBox.three (HBR5.out) (.string ⟨#[]⟩) (.slice none 0 0) (.slice none 0 0);generalize World.setCell _ ⟨R,2,none⟩ _ = WZ at *;obtain ⟨r0,r1,r2,-⟩:=cells3 HC9;refine bodyPost_ret (by simp [results,Tryz.results45,go_sem,r0,r1,r2];try rfl) rfl ?_;have hdZ:Bw w WZ:=(HW5.out).trans (HM9.upto (HW5.out).size (by intro k hk;simp at hk;have:=HSZ.out;omega));exact MergedM.bad HE.out HQ.out hdZ
   ·have HE:Hid (mergeMErr b l r = 11):=by
     show mergeMErr b l r = 11
     rw [HEQ.out,HX1.out,HX2.out,if_neg hxx]
    have HXX:=lH hxx;clear HEQ hxx
    cases x1
    ·skip
     obtain ⟨o0,o1,o2,ol9⟩:=cells3 HBRr.out;obtain ⟨fo0,fo1,fo2⟩:=frozen3 HBRr.out
     (try dsimp only)
     repeat (first | go_values | go_skip | go_guarded | go_step | go_upon | go_in)
     (try simp only [Exit.inBlock,Exit.then])
     clear o0 fo0 o1 fo1 o2 fo2 ol9;obtain ⟨HC9,HM9⟩:=CBox.three (HBRr.out) (.string ⟨#[]⟩) (.slice none 0 0) (.slice none 0 0);generalize World.setCell _ ⟨R,2,none⟩ _ = WZ at *;obtain ⟨r0,r1,r2,-⟩:=cells3 HC9;refine bodyPost_ret (by simp [results,Tryz.results45,go_sem,r0,r1,r2];try rfl) rfl ?_;have hdZ:Bw w WZ:=(HWR.out).trans (HM9.upto (HWR.out).size (by intro k hk;simp at hk;have:=HSZ.out;omega));exact MergedM.bad HE.out (by decide) hdZ
    ·cases x2
     ·skip
      obtain ⟨o0,o1,o2,ol9⟩:=cells3 HBRr.out;obtain ⟨fo0,fo1,fo2⟩:=frozen3 HBRr.out
      (try dsimp only)
      repeat (first | go_values | go_skip | go_guarded | go_step | go_upon | go_in)
      (try simp only [Exit.inBlock,Exit.then])
      clear o0 fo0 o1 fo1 o2 fo2 ol9;obtain ⟨HC9,HM9⟩:=CBox.three (HBRr.out) (.string ⟨#[]⟩) (.slice none 0 0) (.slice none 0 0);generalize World.setCell _ ⟨R,2,none⟩ _ = WZ at *;obtain ⟨r0,r1,r2,-⟩:=cells3 HC9;refine bodyPost_ret (by simp [results,Tryz.results45,go_sem,r0,r1,r2];try rfl) rfl ?_;have hdZ:Bw w WZ:=(HWR.out).trans (HM9.upto (HWR.out).size (by intro k hk;simp at hk;have:=HSZ.out;omega));exact MergedM.bad HE.out (by decide) hdZ
     ·exact absurd rfl HXX.out
end Go.Proofs.YtdpnfkjafhbndaaGreatDoor

