/- Small functions of the laws of chapter 33: let, of, Great and Same of modules. The reference's SameSpots; great of the laws of chapter 33. What is not great is small enough for the walks. great of the laws of chapter 33. -/
import Derived.Test.YtdpnfkjafhbndaaGreatDoorRXU
namespace Go.Proofs.YtdpnfkjafhbndaaGreatDoor
open Go.RowKit Go.Shelf
attribute [local go_sem] Oper.semAt_some
theorem two_boxes (w:World) (t s:TypeId) (xs ys:Array Value):CBox ((w.alloc (.cells xs t)).alloc (.cells ys s)) w.heap.size t xs∧CBox ((w.alloc (.cells xs t)).alloc (.cells ys s)) (w.heap.size + 1) s ys∧Bw w ((w.alloc (.cells xs t)).alloc (.cells ys s)):=by
 refine ⟨(CBox.new w t xs).alloc _,?_,qtrans (qalloc _ _) (qalloc _ _)⟩;have:=CBox.new (w.alloc (.cells xs t)) s ys;rwa [World.size_alloc] at this
theorem strs_box {w:World} {B:Nat} {X:List Nat} {ss:List ByteArray} (hX:B ∉ X) (h:CBox w B 9 (ss.map Value.string).toArray) (hn:ss.length≤1000000):Reads w X (strsT ss) (.slice (some ⟨B,0,none⟩) ss.length ss.length):=by
 refine reads_strs.2 ⟨⟨by simp,some ⟨B,0,none⟩,ss.length,rfl,Nat.le_refl _,by unfold maxLen;omega,fun _ => ⟨B,0,rfl,h.lt,fun j v hj => ?_⟩⟩,fun _ k hk hx => ?_⟩
 ·rw [Nat.zero_add]
  exact h.cell (by rw [← Array.getElem?_toList];exact hj)
 ·simp [Value.ownBlock] at hk
  subst hk;exact hX hx
def letD (id:Int) (s:ByteArray) (x:Ex):ODecl:=⟨id,1,false,[s],false,x⟩
set_option maxRecDepth 100000 in
set_option maxHeartbeats 4000000 in
theorem let33_any (id:Int) (s:ByteArray) (x:Ex) (a:Option Addr) (c:Nat) (X:List Nat) (w:World) (hX:∀ k,k∈X→k < w.heap.size) (hx:ExIn w X x a c) :
  Calls Tryz.prog 81 #[.int .i64 id,.string s,exV x a c] w fun e w' => ∃ an,e = .returned (declV (letD id s x) an 1 a c)∧DecX w' X (letD id s x) an 1 a c∧Bw w w':=by
 obtain ⟨hb,hr,hA⟩:=two_boxes w 66 69 (xA x a c) dZ;have HXI:=lH hx;have HXX:=lH hX;clear hx hX;unfold exV
 go_enter Tryz.func81,Tryz.ntmps81
 go_upto_region 1 with (fail)
 generalize (w.alloc (.cells (xA x a c) 66)).alloc (.cells dZ 69) = W0 at *;obtain ⟨R,hR⟩:∃ R,w.heap.size + 1 = R:=⟨_,rfl⟩;rw [hR] at hr ⊢;have hRl:w.heap.size < R:=by omega
 have HR:=lH hr;have HB:=lH hb;have HA:=lH hA;obtain ⟨B,hB⟩:∃ B,w.heap.size = B:=⟨_,rfl⟩;rw [hB] at HB ⊢;have HBW:Hid (w.heap.size = B):=hB;clear hR hB hr hb hA;have hal:=qalloc W0 (.cells #[.string s] 9);have HN:=lH (CBox.new W0 9 #[.string s]);have HR1:=lH (HR.out.below hal);have HAL:=lH hal;clear hal;obtain ⟨e0,e1,e2,e3,e4,e5,el⟩:=cells6 (HB.out.below HAL.out);obtain ⟨o0,o1,o2,o3,o4,o5,o6,o7,o8,o9,o10,ol⟩:=cells11 HR1.out;obtain ⟨fo0,fo1,fo2,fo3,fo4,fo5,fo6,fo7,fo8,fo9,fo10⟩:=frozen11 HR1.out
 (try dsimp only)
 repeat (first | go_values | go_skip | go_guarded | go_step | go_upon | go_in)
 (try simp only [Exit.inBlock,Exit.then])
 clear o0 o1 o2 o3 o4 o5 o6 o7 o8 o9 o10 fo0 fo1 fo2 fo3 fo4 fo5 fo6 fo7 fo8 fo9 fo10 ol e0 e1 e2 e3 e4 e5 el;obtain ⟨HC9,HM9⟩:=CBox.eleven (HR1.out) (.int .i64 id) (.int .i64 1) (.bool false) (.slice (some ⟨W0.heap.size,0,none⟩) 1 1) (.bool false) (.int .i64 x.kind) (.string x.name) (.string x.more) (.int .i64 x.num) (.int .i64 x.den) (.slice a x.subs.length c);generalize World.setCell _ ⟨R,10,none⟩ _ = WZ at *;obtain ⟨r0,r1,r2,r3,r4,r5,r6,r7,r8,r9,r10,-⟩:=cells11 HC9
 refine bodyPost_ret (by simp [results,Tryz.results81,go_sem,r0,r1,r2,r3,r4,r5,r6,r7,r8,r9,r10];try rfl) rfl ?_;clear r0 r1 r2 r3 r4 r5 r6 r7 r8 r9 r10;have hWZ:Bw w WZ:=(HA.out.trans (HAL.out.mono HA.out.size)).trans (HM9.upto (Nat.le_trans HA.out.size HAL.out.size) (by intro k hk;simp at hk;have:=HBW.out;omega))
 refine ⟨some ⟨W0.heap.size,0,none⟩,rfl,⟨strs_box (ss:=[s]) (fun hx => by have:=HXX.out _ hx;have:=HA.out.size;omega) ((HN.out).mod HM9 (by have:=HR.out.lt;simp;omega)) (by simp),HXI.out.subs.below hWZ,by simp [letD],by omega,HXI.out.h1,HXI.out.h2⟩,hWZ⟩
def ofM (ds:List ODecl):OMod:=⟨⟨#[109]⟩,[],ds⟩
set_option maxRecDepth 100000 in
set_option maxHeartbeats 4000000 in
theorem of33_any (ds:List ODecl) (ad:Option Addr) (cd:Nat) (w:World) :
  Calls Tryz.prog 80 #[.slice ad ds.length cd] w fun e w' => e = .returned (modV (ofM ds) none 0 ad cd)∧Bw w w':=by
 have HR:=lH (CBox.new w 52 mZ);have HA:=lH (qalloc w (.cells mZ 52))
 go_enter Tryz.func80,Tryz.ntmps80
 go_upto_region 1 with (fail)
 generalize World.alloc w _ = W0 at *;obtain ⟨R,hR⟩:∃ R,w.heap.size = R:=⟨_,rfl⟩;rw [hR] at HR ⊢;have HRW:Hid (w.heap.size = R):=hR;clear hR;obtain ⟨o0,o1,o2,ol⟩:=cells3 HR.out;obtain ⟨fo0,fo1,fo2⟩:=frozen3 HR.out
 (try dsimp only)
 repeat (first | go_values | go_skip | go_guarded | go_step | go_upon | go_in)
 (try simp only [Exit.inBlock,Exit.then])
 clear o0 o1 o2 fo0 fo1 fo2 ol ;obtain ⟨HC9,HM9⟩:=CBox.three (HR.out) (.string ⟨#[109]⟩) (.slice none 0 0) (.slice ad ds.length cd);generalize World.setCell _ ⟨R,2,none⟩ _ = WZ at *;obtain ⟨r0,r1,r2,-⟩:=cells3 HC9;refine bodyPost_ret (by simp [results,Tryz.results80,go_sem,r0,r1,r2];try rfl) rfl ?_;clear r0 r1 r2;exact ⟨rfl,HA.out.trans (HM9.upto HA.out.size (by intro k hk;simp at hk;have:=HRW.out;omega))⟩
def greatU (l:List ByteArray):Bool:=if 10 < l.length then true else l.any fun s => decide (120 < s.size)
def greatM (m:OMod):Bool:=decide (120 < m.label.size) || (greatU m.uses || greatDs m.decls)
set_option maxRecDepth 100000 in
set_option maxHeartbeats 2000000 in
theorem rGreatUses_any (l:List ByteArray) (a:Option Addr) (c:Nat) (w:World) (hr:Strs w (.slice a l.length c) l) (hs:∀ s∈l,s.size≤4000000) :
  Calls Tryz.prog 100 #[.slice a l.length c] w fun e w' => e = .returned (.bool (greatU l))∧Bw w w':=by
 have HR:=lH hr;have HS:=lH hs;clear hr hs
 by_cases h10:10 < l.length
 ·have hd:decide ((10:Int) < (l.length:Int)) = true:=decide_eq_true (by omega)
  have HF:Hid (greatU l = true):=by show _ = _;unfold greatU;rw [if_pos h10]
  clear h10
  go_enter Tryz.func100,Tryz.ntmps100
  go_wp2;go_ret;exact ⟨ret_bool HF.out.symm,qrefl _⟩
 ·have hd:decide ((10:Int) < (l.length:Int)) = false:=decide_eq_false (by omega)
  have HF:Hid (greatU l = (l.drop 0).any fun s => decide (120 < s.size)):=by show _ = _;unfold greatU;rw [if_neg h10];rfl
  go_enter Tryz.func100,Tryz.ntmps100
  go_wp2
  go_loopw [3] (fun iv wr => ∃ i:Nat,i≤l.length∧iv = .int .i64 i∧Hid (greatU l = (l.drop i).any fun s => decide (120 < s.size))∧Bw w wr) (fun iv _ => l.length - (intOf iv).toNat)
  case atStart => exact ⟨0,Nat.zero_le _,rfl,HF,qrefl _⟩
  case round =>
   obtain ⟨i,hil,rfl,HI,hb⟩:=hrel;clear HF
   by_cases hi:i < l.length
   ·have hd2:decide ((i:Int) < (l.length:Int)) = true:=decide_eq_true (by omega)
    have hir:(i:Int) < (l.length:Int):=by omega
    obtain ⟨s,hs⟩:∃ s,l[i]? = some s:=⟨_,List.getElem?_eq_getElem hi⟩;obtain ⟨sb,so,rfl,hsb,hsc⟩:=strs_at (HR.out.below hb) hs;have HX:=lH (HI.out.trans (any_at (f:=fun s:ByteArray => decide (120 < s.size)) hs));have hsz:=HS.out s (List.mem_of_getElem? hs);clear hs HI
    by_cases h:120 < s.size
    ·have hq:decide ((120:Int) < (s.size:Int)) = true:=decide_eq_true (by omega)
     have HT:Hid (greatU l = true):=by show _ = _;rw [HX.out,decide_eq_true h];rfl
     clear h HX;go_wp2;go_ret;exact ⟨ret_bool HT.out.symm,hb⟩
    ·have hq:decide ((120:Int) < (s.size:Int)) = false:=decide_eq_false (by omega)
     have HT:Hid (greatU l = (l.drop (i + 1)).any fun s => decide (120 < s.size)):=by show _ = _;rw [HX.out,decide_eq_false h,Bool.false_or]
     clear h HX;go_wp2;go_roundw
     case rel => exact ⟨i + 1,by omega,by go_num,HT,hb⟩
     case measure => simp [intOf];omega
   ·have hd2:decide ((i:Int) < (l.length:Int)) = false:=decide_eq_false (by omega)
    have HT:Hid (greatU l = false):=by show _ = _;rw [HI.out,any_end (by omega)]
    go_wp2;go_ret;exact ⟨ret_bool HT.out.symm,hb⟩
set_option maxRecDepth 100000 in
set_option maxHeartbeats 2000000 in
theorem r24Great_any (m:OMod) (aum adm:Option Addr) (cum cdm:Nat) (w:World) (hm:ModIn w [] m aum cum adm cdm) (hs:BigM m) :
  Calls Tryz.prog 46 #[modV m aum cum adm cdm] w fun e w' => e = .returned (.bool (greatM m))∧Bw w w':=by
 have HB:=lH (CBox.new w 52 (mA m aum cum adm cdm));have HA:=lH (qalloc w (.cells (mA m aum cum adm cdm) 52));have HM:=lH hm;have HBM:=lH hs;have hls:=hs.label;clear hm hs;unfold modV
 go_enter Tryz.func46,Tryz.ntmps46
 go_upto_region 1 with (fail)
 generalize World.alloc w _ = W0 at *;obtain ⟨B,hB⟩:∃ B,w.heap.size = B:=⟨_,rfl⟩;rw [hB] at HB ⊢;clear hB;obtain ⟨y0,y1,y2,yl⟩:=cells3 HB.out
 by_cases h:120 < m.label.size
 ·have hd:decide ((120:Int) < (m.label.size:Int)) = true:=decide_eq_true (by omega)
  have HF:Hid (greatM m = true):=by show _ = _;unfold greatM;rw [decide_eq_true h];rfl
  clear h;go_wp2;go_ret;exact ⟨ret_bool HF.out.symm,HA.out⟩
 ·have hd:decide ((120:Int) < (m.label.size:Int)) = false:=decide_eq_false (by omega)
  have HF:Hid (greatM m = (greatU m.uses || greatDs m.decls)):=by show _ = _;unfold greatM;rw [decide_eq_false h];rfl
  have HU:=lH (rGreatUses_any m.uses aum cum W0 (reads_strs.1 (HM.out.uses.below HA.out)).1 HBM.out.uses);clear h;generalize greatU m.uses = q at *
  cases q with
  | true =>
   go_wp2_with (fail)
   refine HU.out.mono ?_;rintro e w1 ⟨rfl,hb1⟩;have hbw:=HA.out.trans (hb1.mono HA.out.size);go_wp2;go_ret;exact ⟨ret_bool HF.out.symm,hbw⟩
  | false =>
   go_wp2_with (fail)
   refine HU.out.mono ?_;rintro e w1 ⟨rfl,hb1⟩;have hbw:=HA.out.trans (hb1.mono HA.out.size);have HB1:=lH (HB.out.below hb1);have HG:=lH (rGreatDecls_any m.decls adm cdm w1 (HM.out.decls.below hbw) HBM.out.decls);rw [Bool.false_or] at HF;clear y0 y1 y2 yl HU;obtain ⟨y0,y1,y2,yl⟩:=cells3 HB1.out;generalize greatDs m.decls = r at *;go_wp2_with (fail)
   refine HG.out.mono ?_;rintro e w2 ⟨rfl,hb2⟩;go_wp2;go_ret;exact ⟨ret_bool HF.out.symm,hbw.trans (hb2.mono hbw.size)⟩
def sameM (m n:OMod):Bool:=eqS m.label n.label && (sameSs m.uses n.uses && sameDs m.decls n.decls)
theorem sameM_iff {m n:OMod}:sameM m n = true↔m = n:=by
 unfold sameM;rw [Bool.and_eq_true,Bool.and_eq_true,sameSs_iff,sameDs_iff,eqS_iff]
 cases m;cases n
 simp
set_option maxRecDepth 100000 in
set_option maxHeartbeats 2000000 in
theorem r24Same_any (m n:OMod) (aum adm aun adn:Option Addr) (cum cdm cun cdn:Nat) (w:World) (hm:ModIn w [] m aum cum adm cdm) (hn:ModIn w [] n aun cun adn cdn) (hs:∀ x∈m.decls,x.names.length≤1000000∧nodesN x.body≤1000000) (hul:m.uses.length≤1000000) (hdl:m.decls.length≤1000000) :
  Calls Tryz.prog 41 #[modV m aum cum adm cdm,modV n aun cun adn cdn] w fun e w' => e = .returned (.bool (sameM m n))∧Bw w w':=by
 obtain ⟨hb,hr,hA⟩:=two_boxes w 52 52 (mA m aum cum adm cdm) (mA n aun cun adn cdn);have HM:=lH hm;have HN:=lH hn;have HS:=lH hs;clear hm hn hs;unfold modV
 go_enter Tryz.func41,Tryz.ntmps41
 go_upto_region 1 with (fail)
 generalize (w.alloc (.cells (mA m aum cum adm cdm) 52)).alloc (.cells (mA n aun cun adn cdn) 52) = W0 at *;obtain ⟨R,hR⟩:∃ R,w.heap.size + 1 = R:=⟨_,rfl⟩;rw [hR] at hr ⊢;have HR:=lH hr;have HB:=lH hb;have HA:=lH hA;obtain ⟨B,hB⟩:∃ B,w.heap.size = B:=⟨_,rfl⟩;rw [hB] at HB ⊢;clear hR hB hr hb hA;obtain ⟨y0,y1,y2,yl⟩:=cells3 HB.out;obtain ⟨z0,z1,z2,zl⟩:=cells3 HR.out;have HF:Hid (sameM m n = (eqS m.label n.label && (sameSs m.uses n.uses && sameDs m.decls n.decls))):=rfl;obtain ⟨q,hq⟩:∃ q,(m.label.toList == n.label.toList) = q:=⟨_,rfl⟩
 have HQ:Hid (eqS m.label n.label = q):=hq
 cases q with
 | false =>
  have HT:Hid (sameM m n = false):=by show _ = _;rw [HF.out,HQ.out];rfl
  go_wp2;go_ret;exact ⟨ret_bool HT.out.symm,HA.out⟩
 | true =>
  rw [HQ.out,Bool.true_and] at HF;have HU:=lH (fun w1 h => rSameStrings_any m.uses n.uses aum aun cum cun w1 (reads_strs.1 (HM.out.uses.below h)).1 (reads_strs.1 (HN.out.uses.below h)).1 hul);generalize sameSs m.uses n.uses = s at *
  cases s with
  | false =>
   have HT:Hid (sameM m n = false):=by show _ = _;rw [HF.out];rfl
   go_wp2_with (fail)
   refine (HU.out _ HA.out).mono ?_;rintro e w1 ⟨rfl,hb1⟩;go_wp2;go_ret;exact ⟨ret_bool HT.out.symm,HA.out.trans (hb1.mono HA.out.size)⟩
  | true =>
   rw [Bool.true_and] at HF;go_wp2_with (fail)
   refine (HU.out _ HA.out).mono ?_;rintro e w1 ⟨rfl,hb1⟩;have hbw:=HA.out.trans (hb1.mono HA.out.size);have HB1:=lH (HB.out.below hb1);have HR1:=lH (HR.out.below hb1);have HD:=lH (rSameDecls_any m.decls n.decls adm adn cdm cdn w1 (HM.out.decls.below hbw) (HN.out.decls.below hbw) HS.out hdl);clear y0 y1 y2 yl z0 z1 z2 zl HU;obtain ⟨y0,y1,y2,yl⟩:=cells3 HB1.out;obtain ⟨z0,z1,z2,zl⟩:=cells3 HR1.out;generalize sameDs m.decls n.decls = t at *;go_wp2_with (fail)
   refine HD.out.mono ?_;rintro e w2 ⟨rfl,hb2⟩;go_wp2;go_ret;exact ⟨ret_bool HF.out.symm,hbw.trans (hb2.mono hbw.size)⟩
end Go.Proofs.YtdpnfkjafhbndaaGreatDoor
namespace Go.Proofs.YtdpnfkjafhbndaaGreatDoor
open Go.RowKit Go.Shelf
attribute [local go_sem] Oper.semAt_some
attribute [local irreducible] Go.wpStill
def sameSp (a b:OSpot):Bool:=(a.pack.toList == b.pack.toList) && ((a.kind == b.kind) && ((a.id == b.id) && (a.pos == b.pos)))
theorem sameSp_iff (a b:OSpot):sameSp a b = true↔a = b:=by
 unfold sameSp;have:(a.pack.toList == b.pack.toList) = eqS a.pack b.pack:=rfl;rw [this,Bool.and_eq_true,Bool.and_eq_true,Bool.and_eq_true,eqS_iff,beq_iff_eq,beq_iff_eq,beq_iff_eq]
 cases a;cases b
 simp
def sameSps:List OSpot→List OSpot→Bool
 | [],[] => true
 | a :: l,b :: m => sameSp a b && sameSps l m
 | _,_ => false
theorem sameSps_iff:∀ {l m:List OSpot},sameSps l m = true↔l = m
 | [],[] => by simp [sameSps]
 | [],b :: m => by simp [sameSps]
 | a :: l,[] => by simp [sameSps]
 | a :: l,b :: m => by rw [sameSps,Bool.and_eq_true,sameSp_iff,sameSps_iff];simp
theorem spots_yes {a b:List OSpot} (hl:a.length = b.length) (h:∀ (i:Nat) (x y:OSpot),a[i]? = some x→b[i]? = some y→sameSp x y = true):a = b:=by
 refine List.ext_getElem hl fun i h1 h2 => ?_;exact (sameSp_iff _ _).1 (h i _ _ (List.getElem?_eq_getElem h1) (List.getElem?_eq_getElem h2))
theorem spots_no {a b:List OSpot} {i:Nat} {x y:OSpot} (h1:a[i]? = some x) (h2:b[i]? = some y) (h:sameSp x y = false):a≠b:=by
 rintro rfl;rw [h1] at h2
 cases h2
 rw [(sameSp_iff x x).2 rfl] at h
 cases h
theorem run_eqSpot (a b:OSpot) (w:World):(Op.equalIn 10000 54 (.agg #[.string a.pack,.int .i64 a.kind,.int .i64 a.id,.int .i64 a.pos]) (.agg #[.string b.pack,.int .i64 b.kind,.int .i64 b.id,.int .i64 b.pos])).run Tryz.prog w = .ok (sameSp a b) w:=by
 unfold sameSp
 cases h1:(a.pack.toList == b.pack.toList) <;> cases h2:(a.kind == b.kind) <;> cases h3:(a.id == b.id) <;> cases h4:(a.pos == b.pos) <;> simp [go_sem,h1,h2,h3,h4]
theorem run_neqSpot (a b:OSpot) (w:World) (av:Operand→Value) (x y:Operand) (hx:av x = .agg #[.string a.pack,.int .i64 a.kind,.int .i64 a.id,.int .i64 a.pos]) (hy:av y = .agg #[.string b.pack,.int .i64 b.kind,.int .i64 b.id,.int .i64 b.pos]) (o:Oper) (ho:o.op = .binOp .neq 54 x y 54):(execOp av o).run Tryz.prog w = .ok (.value (.bool (!sameSp a b))) w:=by
 unfold execOp;simp [go_sem,ho,hx,hy,run_eqSpot]
theorem spots_elem {w:World} {X:List Nat} {l:List OSpot} {a:Option Addr} {cap:Nat} (h:Reads w X (spotsT l) (.slice a l.length cap)) {i:Nat} {s:OSpot} (hi:l[i]? = some s) :
  ∃ (b o:Nat),a = some ⟨b,o,none⟩∧b < w.heap.size∧w.cell? ⟨b,o + i * 4,none⟩ = some (.string s.pack)∧w.cell? ⟨b,o + i * 4 + 1,none⟩ = some (.int .i64 s.kind)∧w.cell? ⟨b,o + i * 4 + 2,none⟩ = some (.int .i64 s.id)∧w.cell? ⟨b,o + i * 4 + 3,none⟩ = some (.int .i64 s.pos):=by
 obtain ⟨b,o,rfl,hb,hc⟩:=Reads.elem (size:=4) (f:=spotT) (fun _ => rfl) h hi;have key:∀ (j:Nat) (t:Tree),(spotT s)[j]? = some t→∃ u,w.cell? ⟨b,o + i * 4 + j,none⟩ = some u∧Reads w X t u:=hc;rw [spotT] at key;have lf:∀ (j:Nat) (v u:Value),w.cell? ⟨b,o + i * 4 + j,none⟩ = some v→v = u→w.cell? ⟨b,o + i * 4 + j,none⟩ = some u:=fun j v u h e => by rw [h,e]
 obtain ⟨v0,e0,r0⟩:=key 0 _ rfl;obtain ⟨v1,e1,r1⟩:=key 1 _ rfl;obtain ⟨v2,e2,r2⟩:=key 2 _ rfl;obtain ⟨v3,e3,r3⟩:=key 3 _ rfl;exact ⟨b,o,rfl,hb,lf 0 v0 _ e0 (Reads.leafv r0),lf 1 v1 _ e1 (Reads.leafv r1),lf 2 v2 _ e2 (Reads.leafv r2),lf 3 v3 _ e3 (Reads.leafv r3)⟩
set_option maxRecDepth 100000 in
set_option maxHeartbeats 2000000 in
theorem rSameSpots_any (a b:List OSpot) (a1 a2:Option Addr) (cap1 cap2:Nat) (w:World) (h1:Reads w [] (spotsT a) (.slice a1 a.length cap1)) (h2:Reads w [] (spotsT b) (.slice a2 b.length cap2)) (hn:a.length≤1000000) :
  Calls Tryz.prog 36 #[.slice a1 a.length cap1,.slice a2 b.length cap2] w fun e w' => e = .returned (.bool (sameSps a b))∧Bw w w':=by
 have H1:=lH h1;have H2:=lH h2;clear h1 h2;obtain ⟨r,hr0⟩:∃ r,sameSps a b = r:=⟨_,rfl⟩;have hr:Hid (r = true↔a = b):=by show _↔_;rw [← hr0];exact sameSps_iff
 rw [hr0];clear hr0
 by_cases hlen:a.length = b.length
 ·have hne:((a.length:Int) != (b.length:Int)) = false:=by simp [hlen]
  have HLN:=lH hlen
  go_enter Tryz.func36,Tryz.ntmps36
  go_wp2
  go_loopw [5] (fun iv wr => ∃ k:Nat,k≤a.length∧iv = .int .i64 k∧Hid (Bw w wr)∧Hid (∀ (i:Nat) (x y:OSpot),i < k→a[i]? = some x→b[i]? = some y→sameSp x y = true)) (fun iv _ => a.length - (intOf iv).toNat)
  case atStart => exact ⟨0,Nat.zero_le _,rfl,qrefl _,fun i x y hi => by omega⟩
  case round =>
   obtain ⟨k,hk,rfl,HW,HK⟩:=hrel;have H1d:=lH (H1.out.below HW.out);have H2d:=lH (H2.out.below HW.out);have HWD:Hid (Bw w wr.drew):=HW.out.trans ((Mod.refl [] wr).drew.below.mono HW.out.size);have hk0:(0:Int)≤(k:Int):=by omega
   by_cases hkl:k < a.length
   ·obtain ⟨x,hx⟩:∃ x,a[k]? = some x:=⟨_,List.getElem?_eq_getElem hkl⟩
    obtain ⟨y,hy⟩:∃ y,b[k]? = some y:=⟨_,List.getElem?_eq_getElem (by omega)⟩;obtain ⟨b1,o1,rfl,hb1,d0,d1,d2,d3⟩:=spots_elem H1d.out hx;obtain ⟨b2,o2,rfl,hb2,e0,e1,e2,e3⟩:=spots_elem H2d.out hy;have hk1:(k:Int) < (a.length:Int):=by omega
    have hk2:(k:Int) < (b.length:Int):=by omega
    have HNO:Hid (sameSp x y = false→r = false):=fun h => by
     cases hb:r with
     | false => rfl
     | true => exact absurd (hr.out.1 hb) (spots_no hx hy h)
    have HYE:Hid (sameSp x y = true→∀ (i:Nat) (u v:OSpot),i < k + 1→a[i]? = some u→b[i]? = some v→sameSp u v = true):=fun h i u v hi hu hv => by
     by_cases e:i = k
     ·subst e;rw [hx] at hu;rw [hy] at hv;cases hu;cases hv;exact h
     ·exact HK.out i u v (by omega) hu hv
    clear hx hy
    cases hs:sameSp x y with
    | false =>
     have HR:=lH (HNO.out hs);have hs':=hs;clear HNO HYE;go_wp2_with (fail)
     refine wp_region_noPanic (region_lex (fun W => W.cell? ⟨b1,o1 + k * 4,none⟩ = some (.string x.pack)∧W.cell? ⟨b1,o1 + k * 4 + 1,none⟩ = some (.int .i64 x.kind)∧W.cell? ⟨b1,o1 + k * 4 + 2,none⟩ = some (.int .i64 x.id)∧W.cell? ⟨b1,o1 + k * 4 + 3,none⟩ = some (.int .i64 x.pos)∧W.cell? ⟨b2,o2 + k * 4,none⟩ = some (.string y.pack)∧W.cell? ⟨b2,o2 + k * 4 + 1,none⟩ = some (.int .i64 y.kind)∧W.cell? ⟨b2,o2 + k * 4 + 2,none⟩ = some (.int .i64 y.id)∧W.cell? ⟨b2,o2 + k * 4 + 3,none⟩ = some (.int .i64 y.pos)∧b1 < W.heap.size∧b2 < W.heap.size) [true,true,true,true,true,true,true,true,true] mixedK (by kernel_rfl) (fun _ _ _ _ _ h => h) ⟨d0,d1,d2,d3,e0,e1,e2,e3,hb1,hb2⟩ (fun _ => ?_))
     iterate 8 (first | (refine lex_skip (by rfl) ?_;(try simp only [Act.put,List.setIfInBounds_toArray,List.set_cons_zero,List.set_cons_succ])) | (refine lex_take (v:=?_) (by rfl) ?_ ?_;rotate_left;(focus (intro wq hSw;(try dsimp only at hSw);go_simp;(try with_reducible rfl)));(try simp only [Act.put,List.setIfInBounds_toArray,List.set_cons_zero,List.set_cons_succ])))
     refine lex_take (v:=.bool (!sameSp x y)) (by rfl) (fun wq _ => run_neqSpot x y wq _ _ _ rfl rfl _ rfl) ?_
     (try simp only [Act.put,List.setIfInBounds_toArray,List.set_cons_zero,List.set_cons_succ])
     rw [hs'];refine lex_end ?_;refine NoPanic.normal ?_;go_wp2;go_ret;exact ⟨ret_bool (by rw [HR.out]),HWD.out⟩
    | true =>
     have HR:=lH (HYE.out hs);have hs':=hs;clear HNO HYE;go_wp2_with (fail)
     refine wp_region_noPanic (region_lex (fun W => W.cell? ⟨b1,o1 + k * 4,none⟩ = some (.string x.pack)∧W.cell? ⟨b1,o1 + k * 4 + 1,none⟩ = some (.int .i64 x.kind)∧W.cell? ⟨b1,o1 + k * 4 + 2,none⟩ = some (.int .i64 x.id)∧W.cell? ⟨b1,o1 + k * 4 + 3,none⟩ = some (.int .i64 x.pos)∧W.cell? ⟨b2,o2 + k * 4,none⟩ = some (.string y.pack)∧W.cell? ⟨b2,o2 + k * 4 + 1,none⟩ = some (.int .i64 y.kind)∧W.cell? ⟨b2,o2 + k * 4 + 2,none⟩ = some (.int .i64 y.id)∧W.cell? ⟨b2,o2 + k * 4 + 3,none⟩ = some (.int .i64 y.pos)∧b1 < W.heap.size∧b2 < W.heap.size) [true,true,true,true,true,true,true,true,true] mixedK (by kernel_rfl) (fun _ _ _ _ _ h => h) ⟨d0,d1,d2,d3,e0,e1,e2,e3,hb1,hb2⟩ (fun _ => ?_))
     iterate 8 (first | (refine lex_skip (by rfl) ?_;(try simp only [Act.put,List.setIfInBounds_toArray,List.set_cons_zero,List.set_cons_succ])) | (refine lex_take (v:=?_) (by rfl) ?_ ?_;rotate_left;(focus (intro wq hSw;(try dsimp only at hSw);go_simp;(try with_reducible rfl)));(try simp only [Act.put,List.setIfInBounds_toArray,List.set_cons_zero,List.set_cons_succ])))
     refine lex_take (v:=.bool (!sameSp x y)) (by rfl) (fun wq _ => run_neqSpot x y wq _ _ _ rfl rfl _ rfl) ?_
     (try simp only [Act.put,List.setIfInBounds_toArray,List.set_cons_zero,List.set_cons_succ])
     rw [hs'];refine lex_end ?_;refine NoPanic.normal ?_;go_wp2;go_roundw
     case rel => exact ⟨k + 1,by omega,by go_num,HWD,HR⟩
     case measure => simp [intOf];omega
   ·have hd2:decide ((k:Int) < (a.length:Int)) = false:=decide_eq_false (by omega)
    have HT:Hid (r = true):=hr.out.2 (spots_yes HLN.out (fun i x y hx hy => HK.out i x y (by have:=(List.getElem?_eq_some_iff.1 hx).1;omega) hx hy));go_wp2;go_ret;exact ⟨ret_bool (by rw [HT.out]),HW.out⟩
 ·have hne:((a.length:Int) != (b.length:Int)) = true:=by simp;omega
  have HT:Hid (r = false):=by
   cases hb:r with
   | false => rfl
   | true => exact absurd (congrArg List.length (hr.out.1 hb)) hlen
  go_enter Tryz.func36,Tryz.ntmps36
  go_wp2;go_ret;exact ⟨ret_bool (by rw [HT.out]),qrefl _⟩
end Go.Proofs.YtdpnfkjafhbndaaGreatDoor
namespace Go.Proofs.YtdpnfkjafhbndaaGreatDoor
theorem smX_small {x:Ex}:∀ (_:SmX 9223372036854775807 x) (_:anyX longP x = false),SmX 40000 x:=by
 refine Ex.ind (P:=fun x => ∀ (_:SmX 9223372036854775807 x) (_:anyX longP x = false),SmX 40000 x) (fun x ih h hl => ?_) x;have hs:=h.subs
 cases x with
 | mk k n m i d s =>
  rw [anyX_eq] at hl;simp only [Bool.or_eq_false_iff] at hl
  obtain ⟨h1,h2⟩:=hl;unfold longP at h1;simp only [Bool.or_eq_false_iff,decide_eq_false_iff_not] at h1
  refine .mk (by have:=h1.1;simp only [Ex.name] at this;omega) (by have:=h1.2;simp only [Ex.more] at this;omega) h.kind h.num h.den (fun y hy => ih y hy (hs y hy) ?_);rw [List.any_eq_false] at h2
  simpa using h2 y hy
theorem smD_of {d:ODecl} (h:BigD d) (g:greatD d = false):SmD d∧nodesN d.body≤1000000:=by
 unfold greatD greatX at g;simp only [Bool.or_eq_false_iff,decide_eq_false_iff_not,List.any_eq_false,decide_eq_true_eq] at g
 obtain ⟨⟨g1,g2,g3⟩,g4⟩:=g;exact ⟨⟨fun s hs => by have:=g4 s hs;omega,by omega,smX_small h.body g3,by omega⟩,by omega⟩
theorem smM_of {m:OMod} (h:BigM m) (g:greatM m = false):SmM m∧∀ d∈m.decls,nodesN d.body≤1000000:=by
 unfold greatM at g;simp only [Bool.or_eq_false_iff,decide_eq_false_iff_not] at g
 obtain ⟨g1,g2,g3⟩:=g;unfold greatU at g2;split at g2
 ·cases g2
 ·unfold greatDs at g3
  split at g3
  ·cases g3
  ·have k2:∀ s∈m.uses,s.size≤40000:=fun s hs => by
    have:=List.any_eq_false.1 g2 s hs;simp at this
    omega
   have k3:∀ d∈m.decls,greatD d = false:=fun d hd => by
    have:=List.any_eq_false.1 g3 d hd
    simpa using this
   exact ⟨⟨by omega,k2,by omega,fun d hd => (smD_of (h.decls d hd) (k3 d hd)).1,by omega⟩,fun d hd => (smD_of (h.decls d hd) (k3 d hd)).2⟩
end Go.Proofs.YtdpnfkjafhbndaaGreatDoor
namespace Go.Proofs.YtdpnfkjafhbndaaGreatDoor
open Go.RowKit Go.Shelf
attribute [local go_sem] Oper.semAt_some
structure ModsAt (w:World) (B:Nat) (l:List OMod):Prop where
  lt:B < w.heap.size
  at_:∀ (i:Nat) (m:OMod),l[i]? = some m→∃ au cu ad cd,ModIn w [] m au cu ad cd∧w.cell? ⟨B,i * 3,none⟩ = some (.string m.label)∧w.cell? ⟨B,i * 3 + 1,none⟩ = some (.slice au m.uses.length cu)∧w.cell? ⟨B,i * 3 + 2,none⟩ = some (.slice ad m.decls.length cd)
theorem ModsAt.below {w w':World} {B:Nat} {l:List OMod} (h:ModsAt w B l) (k:Bw w w'):ModsAt w' B l:=
 ⟨Nat.lt_of_lt_of_le h.lt k.size,fun i m hi => by
  obtain ⟨au,cu,ad,cd,h0,h1,h2,h3⟩:=h.at_ i m hi
  exact ⟨au,cu,ad,cd,h0.below k,(k.cell (p:=⟨B,_,none⟩) h.lt).trans h1,(k.cell (p:=⟨B,_,none⟩) h.lt).trans h2,(k.cell (p:=⟨B,_,none⟩) h.lt).trans h3⟩⟩
set_option maxRecDepth 100000 in
set_option maxHeartbeats 4000000 in
theorem great33_any (l:List OMod) (S:Nat) (w:World) (hl:ModsAt w S l) (hs:∀ m∈l,BigM m) (hn:l.length≤1000000) :
  Calls Tryz.prog 32 #[.slice (some ⟨S,0,none⟩) l.length l.length] w fun e w' => e = .returned (.bool (l.any greatM))∧Bw w w':=by
 have HL:=lH hl;have HS:=lH hs;have HF:Hid (l.any greatM = (l.drop 0).any greatM):=rfl;clear hl hs
 go_enter Tryz.func32,Tryz.ntmps32
 go_wp2
 go_loopw [7] (fun iv wr => ∃ i:Nat,i≤l.length∧iv = .int .i64 i∧Hid (l.any greatM = (l.drop i).any greatM)∧Hid (Bw w wr)) (fun iv _ => l.length - (intOf iv).toNat)
 case atStart => exact ⟨0,Nat.zero_le _,rfl,HF,qrefl _⟩
 case round =>
  obtain ⟨i,hil,rfl,HI,HBW⟩:=hrel;clear HF
  by_cases hi:i < l.length
  ·have hd:decide ((i:Int) < (l.length:Int)) = true:=decide_eq_true (by omega)
   have hir:(i:Int) < (l.length:Int):=by omega
   obtain ⟨m,hm⟩:∃ m,l[i]? = some m:=⟨_,List.getElem?_eq_getElem hi⟩;have hla:=HL.out.below HBW.out;obtain ⟨aum,cum,adm,cdm,hmi,m0,m1,m2⟩:=hla.at_ i m hm;have hlt:=hla.lt;have HMI:=lH hmi;have HX:=lH (HI.out.trans (any_at (f:=greatM) hm));have HBM:=lH (HS.out m (List.mem_of_getElem? hm));clear hmi hla hm HI;have hal:=qalloc wr (.cells (mA m aum cum adm cdm) 52);have HM:=lH (CBox.new wr 52 (mA m aum cum adm cdm));have HMI3:=lH (HMI.out.below hal);have HB3:Hid (Bw w _):=HBW.out.trans (hal.mono HBW.out.size);clear hal
   go_upto_region 4 with (fail)
   generalize World.alloc wr _ = w3 at *;obtain ⟨E,hE⟩:∃ E,wr.heap.size = E:=⟨_,rfl⟩;rw [hE] at HM ⊢;clear hE m0 m1 m2 hlt HBW HMI;obtain ⟨y0,y1,y2,yl⟩:=cells3 HM.out;have HG:=lH (r24Great_any m aum adm cum cdm w3 HMI3.out HBM.out);unfold modV at HG;generalize greatM m = q at *;go_wp2_with (fail)
   refine HG.out.mono ?_;rintro e w4 ⟨rfl,hb4⟩;have HB4:Hid (Bw w w4):=HB3.out.trans (hb4.mono HB3.out.size);clear y0 y1 y2 yl HG HM hb4 HB3 HMI3
   cases q with
   | true =>
    have HT:Hid (l.any greatM = true):=by show _ = _;rw [HX.out];rfl
    go_wp2;go_ret;exact ⟨ret_bool HT.out.symm,HB4.out⟩
   | false =>
    rw [Bool.false_or] at HX;go_wp2;go_roundw
    case rel => exact ⟨i + 1,by omega,by go_num,HX,HB4⟩
    case measure => simp [intOf];omega
  ·have hd:decide ((i:Int) < (l.length:Int)) = false:=decide_eq_false (by omega)
   have HT:Hid (l.any greatM = false):=by show _ = _;rw [HI.out,any_end (by omega)]
   go_wp2;go_ret;exact ⟨ret_bool HT.out.symm,HBW.out⟩
end Go.Proofs.YtdpnfkjafhbndaaGreatDoor

