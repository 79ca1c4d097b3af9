/- modmerge.mergeBoth. -/
import Derived.Test.YtdpnfkjafhbndaaGreatDoorRXK
import Derived.Test.YtdpnfkjafhbndaaGreatDoorRNC
namespace Go.Proofs.YtdpnfkjafhbndaaGreatDoor
open Go.RowKit Go.Shelf
attribute [local go_sem] Oper.semAt_some
structure DecX (w:World) (X:List Nat) (d:ODecl) (an:Option Addr) (cn:Nat) (sa:Option Addr) (cs:Nat):Prop where
  names:Reads w X (strsT d.names) (.slice an d.names.length cn)
  subs:Reads w X (subsT d.body.subs) (.slice sa d.body.subs.length cs)
  hn1:d.names.length≤cn
  hn2:cn≤9223372036854775807
  hs1:d.body.subs.length≤cs
  hs2:cs≤9223372036854775807
section
variable {w w':World} {X:List Nat} {d:ODecl} {an:Option Addr} {cn:Nat} {sa:Option Addr} {cs:Nat}
theorem DecX.below (h:DecX w X d an cn sa cs) (m:Bw w w'):DecX w' X d an cn sa cs:=⟨h.names.below m,h.subs.below m,h.hn1,h.hn2,h.hs1,h.hs2⟩
theorem DecX.mod (h:DecX w X d an cn sa cs) (m:Mod X w w'):DecX w' X d an cn sa cs:=⟨h.names.mod m,h.subs.mod m,h.hn1,h.hn2,h.hs1,h.hs2⟩
theorem DecX.fewer {Y:List Nat} (h:DecX w X d an cn sa cs) (hs:∀ k,k∈Y→k∈X):DecX w Y d an cn sa cs:=⟨h.names.fewer hs,h.subs.fewer hs,h.hn1,h.hn2,h.hs1,h.hs2⟩
theorem DecX.more {k:Nat} (h:DecX w X d an cn sa cs) (hk:w.heap.size≤k):DecX w (k :: X) d an cn sa cs:=⟨h.names.more hk,h.subs.more hk,h.hn1,h.hn2,h.hs1,h.hs2⟩
theorem DecX.body (h:DecX w X d an cn sa cs):ExIn w X d.body sa cs:=⟨h.subs,h.hs1,h.hs2⟩
theorem DecX.free (h:DecX w X d an cn sa cs):DeclIn w d an cn sa cs:=⟨h.names.free,h.subs.free,h.hn1,h.hn2,h.hs1,h.hs2⟩
theorem noDecl_in (w:World) (X:List Nat):DecX w X noDecl none 0 none 0:=⟨Reads.nilRow w X 1 _,Reads.nilRow w X 6 exprT,Nat.le_refl _,Nat.zero_le _,Nat.le_refl _,Nat.zero_le _⟩
end
theorem mod_eleven (w:World) (B:Nat) (v0 v1 v2 v3 v4 v5 v6 v7 v8 v9 v10:Value):Mod [B] w (((((((((((w.setCell ⟨B,0,none⟩ (v0)).setCell ⟨B,1,none⟩ (v1)).setCell ⟨B,2,none⟩ (v2)).setCell ⟨B,3,none⟩ (v3)).setCell ⟨B,4,none⟩ (v4)).setCell ⟨B,5,none⟩ (v5)).setCell ⟨B,6,none⟩ (v6)).setCell ⟨B,7,none⟩ (v7)).setCell ⟨B,8,none⟩ (v8)).setCell ⟨B,9,none⟩ (v9)).setCell ⟨B,10,none⟩ (v10)):=by
 have hB:∀ o:Nat,(⟨B,o,none⟩:Addr).block∈[B]:=fun _ => List.mem_singleton.2 rfl;exact ((((((((((((Mod.refl [B] w).setCell (hB 0) v0).setCell (hB 1) v1).setCell (hB 2) v2).setCell (hB 3) v3).setCell (hB 4) v4).setCell (hB 5) v5).setCell (hB 6) v6).setCell (hB 7) v7).setCell (hB 8) v8).setCell (hB 9) v9).setCell (hB 10) v10)
theorem CBox.eleven {w:World} {B:Nat} {t:TypeId} {a0 a1 a2 a3 a4 a5 a6 a7 a8 a9 a10:Value} (h:CBox w B t #[a0,a1,a2,a3,a4,a5,a6,a7,a8,a9,a10]) (v0 v1 v2 v3 v4 v5 v6 v7 v8 v9 v10:Value) :
  CBox (((((((((((w.setCell ⟨B,0,none⟩ (v0)).setCell ⟨B,1,none⟩ (v1)).setCell ⟨B,2,none⟩ (v2)).setCell ⟨B,3,none⟩ (v3)).setCell ⟨B,4,none⟩ (v4)).setCell ⟨B,5,none⟩ (v5)).setCell ⟨B,6,none⟩ (v6)).setCell ⟨B,7,none⟩ (v7)).setCell ⟨B,8,none⟩ (v8)).setCell ⟨B,9,none⟩ (v9)).setCell ⟨B,10,none⟩ (v10)) B t #[v0,v1,v2,v3,v4,v5,v6,v7,v8,v9,v10]∧Mod [B] w (((((((((((w.setCell ⟨B,0,none⟩ (v0)).setCell ⟨B,1,none⟩ (v1)).setCell ⟨B,2,none⟩ (v2)).setCell ⟨B,3,none⟩ (v3)).setCell ⟨B,4,none⟩ (v4)).setCell ⟨B,5,none⟩ (v5)).setCell ⟨B,6,none⟩ (v6)).setCell ⟨B,7,none⟩ (v7)).setCell ⟨B,8,none⟩ (v8)).setCell ⟨B,9,none⟩ (v9)).setCell ⟨B,10,none⟩ (v10)):=by
 have h0:CBox _ B t #[v0,a1,a2,a3,a4,a5,a6,a7,a8,a9,a10]:=h.set 0 v0;have h1:CBox _ B t #[v0,v1,a2,a3,a4,a5,a6,a7,a8,a9,a10]:=h0.set 1 v1;have h2:CBox _ B t #[v0,v1,v2,a3,a4,a5,a6,a7,a8,a9,a10]:=h1.set 2 v2;have h3:CBox _ B t #[v0,v1,v2,v3,a4,a5,a6,a7,a8,a9,a10]:=h2.set 3 v3;have h4:CBox _ B t #[v0,v1,v2,v3,v4,a5,a6,a7,a8,a9,a10]:=h3.set 4 v4;have h5:CBox _ B t #[v0,v1,v2,v3,v4,v5,a6,a7,a8,a9,a10]:=h4.set 5 v5;have h6:CBox _ B t #[v0,v1,v2,v3,v4,v5,v6,a7,a8,a9,a10]:=h5.set 6 v6
 have h7:CBox _ B t #[v0,v1,v2,v3,v4,v5,v6,v7,a8,a9,a10]:=h6.set 7 v7;have h8:CBox _ B t #[v0,v1,v2,v3,v4,v5,v6,v7,v8,a9,a10]:=h7.set 8 v8;have h9:CBox _ B t #[v0,v1,v2,v3,v4,v5,v6,v7,v8,v9,a10]:=h8.set 9 v9;exact ⟨h9.set 10 v10,mod_eleven w B v0 v1 v2 v3 v4 v5 v6 v7 v8 v9 v10⟩
theorem CBox.putD {w:World} {B:Nat} {t:TypeId} {a0 a1 a2 a3 a4 a5 a6 a7 a8 a9 a10:Value} (h:CBox w B t #[a0,a1,a2,a3,a4,a5,a6,a7,a8,a9,a10]) (d:ODecl) (a:Option Addr) (c:Nat) (s:Option Addr) (k:Nat):type_of% (CBox.eleven h (.int .i64 d.id) (.int .i64 d.kind) (.bool d.pub) (.slice a d.names.length c) (.bool d.doubt) (.int .i64 d.body.kind) (.string d.body.name) (.string d.body.more) (.int .i64 d.body.num) (.int .i64 d.body.den) (.slice s d.body.subs.length k)):=CBox.eleven h (.int .i64 d.id) (.int .i64 d.kind) (.bool d.pub) (.slice a d.names.length c) (.bool d.doubt) (.int .i64 d.body.kind) (.string d.body.name) (.string d.body.more) (.int .i64 d.body.num) (.int .i64 d.body.den) (.slice s d.body.subs.length k)
theorem CBox.putZ {w:World} {B:Nat} {t:TypeId} {a0 a1 a2 a3 a4 a5 a6 a7 a8 a9 a10:Value} (h:CBox w B t #[a0,a1,a2,a3,a4,a5,a6,a7,a8,a9,a10]):type_of% (CBox.eleven h (.int .i64 0) (.int .i64 0) (.bool false) (.slice none 0 0) (.bool false) (.int .i64 0) (.string ⟨#[]⟩) (.string ⟨#[]⟩) (.int .i64 0) (.int .i64 0) (.slice none 0 0)):=CBox.eleven h (.int .i64 0) (.int .i64 0) (.bool false) (.slice none 0 0) (.bool false) (.int .i64 0) (.string ⟨#[]⟩) (.string ⟨#[]⟩) (.int .i64 0) (.int .i64 0) (.slice none 0 0)
theorem kind_ok {b l r:Int} (h:okI b l r = true):pickI b l r = kindM b l r∧kindC b l r = false:=by
 unfold okI at h;unfold pickI kindM kindC;simp only [Bool.or_eq_true,beq_iff_eq] at h ⊢
 by_cases h1:l = r
 ·simp [h1]
 ·by_cases h2:r = b
  ·simp [h2]
  ·have h3:l = b:=by rcases h with h | h | h;exact absurd h h1;exact absurd h h2;exact h
   simp [h2,h3]
theorem kind_not {b l r:Int} (h:okI b l r = false):min l r = kindM b l r∧kindC b l r = true:=by
 unfold okI at h;simp only [Bool.or_eq_false_iff,beq_eq_false_iff_ne] at h
 unfold kindM kindC;rw [if_neg (by rintro (e | e);exact h.1 e;exact h.2.1 e),if_neg h.2.2];simp [h.1,h.2.1,h.2.2]
theorem names_ok {b l r:List ByteArray} {vl vr:Value} (h:okS b l r = true):((pickS b l r vl vr = vl∧namesM b l r = l)∨(pickS b l r vl vr = vr∧namesM b l r = r))∧namesC b l r = false:=by
 unfold okS at h;unfold pickS namesM namesC
 cases h1:sameSs l r with
 | true => simp
 | false =>
  cases h2:sameSs r b with
  | true => simp
  | false =>
   rw [h1,h2] at h;have h3:sameSs l b = true:=by simpa using h
   simp [h3]
theorem names_not {b l r:List ByteArray} (h:okS b l r = false):namesM b l r = [sAt l 0,sAt b 0,sAt r 0]∧namesC b l r = (b.length != 1 || l.length != 1 || r.length != 1):=by
 unfold okS at h;simp only [Bool.or_eq_false_iff] at h
 unfold namesM namesC;simp [h.1,h.2.1,h.2.2]
structure MergedD (b l r:ODecl) (X:List Nat) (w:World) (e:Ending) (w':World):Prop where
  of ::
  out:∃ an cn sa cs,e = .returned (.tuple #[declV (bothOut b l r) an cn sa cs,.int .i64 (bothErr b l r)])∧DecX w' X (bothOut b l r) an cn sa cs∧Below w.heap.size w w'
theorem MergedD.bad {b l r:ODecl} {X:List Nat} {w w':World} {q:Int} (h:bothErr b l r = q) (hq:q≠0) (hb:Bw w w'):MergedD b l r X w (.returned (.tuple #[.agg #[.int .i64 0,.int .i64 0,.bool false,.slice none 0 0,.bool false,.int .i64 0,.string ⟨#[]⟩,.string ⟨#[]⟩,.int .i64 0,.int .i64 0,.slice none 0 0],.int .i64 q])) w':=by
 have e:bothOut b l r = noDecl:=by unfold bothOut;rw [h,if_neg hq]
 refine ⟨none,0,none,0,?_,?_,hb⟩
 ·rw [e,h];rfl
 ·rw [e];exact noDecl_in _ _
set_option maxRecDepth 100000 in
set_option maxHeartbeats 8000000 in
theorem mergeBoth_any (b l r:ODecl) (anb anl anr asb asl asr:Option Addr) (cnb cnl cnr csb csl csr:Nat) (X:List Nat) (w:World) (hX:∀ k,k∈X→k < w.heap.size) (hb:DecX w X b anb cnb asb csb) (hl:DecX w X l anl cnl asl csl) (hr:DecX w X r anr cnr asr csr)
  (sb:SmD b) (sl:SmD l) (sr:SmD r) (nb:nodesN b.body≤1000000) (nl:nodesN l.body≤1000000) (nr:nodesN r.body≤1000000) :
  Calls Tryz.prog 162 #[declV b anb cnb asb csb,declV l anl cnl asl csl,declV r anr cnr asr csr] w (MergedD b l r X w):=by
 have HX:=lH hX;have HB:=lH hb;have HL:=lH hl;have HR:=lH hr;have HSB:=lH sb;have HSL:=lH sl;have HSR:=lH sr;have HCB:=lH chooseB_any;have HCI:=lH chooseI_any;have HKO:=lH (kind_ok (b:=b.kind) (l:=l.kind) (r:=r.kind));have HKN:=lH (kind_not (b:=b.kind) (l:=l.kind) (r:=r.kind));obtain ⟨gb,gl,gr,go,hA,hs4⟩:=four_boxes w 69 (dA b anb cnb asb csb) (dA l anl cnl asl csl) (dA r anr cnr asr csr) dZ;clear hX hb hl hr sb sl sr;unfold declV
 go_enter Tryz.func162,Tryz.ntmps162
 go_upto_region 1 with (fail)
 generalize (((w.alloc (.cells (dA b anb cnb asb csb) 69)).alloc (.cells (dA l anl cnl asl csl) 69)).alloc (.cells (dA r anr cnr asr csr) 69)).alloc (.cells dZ 69) = W0 at *;generalize hn1:w.heap.size + 1 = n1 at *;generalize hn2:n1 + 1 = n2 at *;generalize hn3:n2 + 1 = n3 at *;have m1:w.heap.size < n1:=by omega
 have m2:n1 < n2:=by omega
 have m3:n2 < n3:=by omega
 have hsW:n3 < W0.heap.size:=by omega
 clear hn1 hn2 hn3 hs4;have Gb:=lH gb;have Gl:=lH gl;have Gr:=lH gr;have Go:=lH go;clear gb gl gr go;have l0:=Gl.out.cell (i:=0) (v:=.int .i64 l.id) rfl;have ll:=Gl.out.lt;have hal:=qalloc W0 (.cells #[.int .i64 l.id,.int .i64 0,.bool false,.slice none 0 0,.bool false,.int .i64 0,.string ⟨#[]⟩,.string ⟨#[]⟩,.int .i64 0,.int .i64 0,.slice none 0 0] 69);have HD1:=lH (CBox.new W0 69 #[.int .i64 l.id,.int .i64 0,.bool false,.slice none 0 0,.bool false,.int .i64 0,.string ⟨#[]⟩,.string ⟨#[]⟩,.int .i64 0,.int .i64 0,.slice none 0 0])
 go_upto_region 2 with (fail)
 clear l0 ll;generalize World.alloc W0 _ = W1 at *;obtain ⟨n4,hn4⟩:∃ n4,W0.heap.size = n4:=⟨_,rfl⟩;rw [hn4] at HD1 ⊢;have HN4:Hid (W0.heap.size≤n4∧n3 < n4):=⟨by omega,by omega⟩;have HW1:=lH hal;clear hal hn4;have b2:=(Gb.out.below HW1.out).cell (i:=2) (v:=.bool b.pub) rfl;have bl:=(Gb.out.below HW1.out).lt;have l2:=(Gl.out.below HW1.out).cell (i:=2) (v:=.bool l.pub) rfl;have ll:=(Gl.out.below HW1.out).lt;have r2:=(Gr.out.below HW1.out).cell (i:=2) (v:=.bool r.pub) rfl;have rl:=(Gr.out.below HW1.out).lt
 have d2:=HD1.out.cell (i:=2) (v:=.bool false) rfl;have e2:=HD1.out.frozen 2;have dl:=HD1.out.lt;go_upto_region 3 with (go_at_call 157;refine (HCB.out _ _ _ _).mono ?_;rintro e w' ⟨rfl,hw9⟩;subst w')
 clear b2 l2 r2 bl ll rl;clear d2 e2 dl;have HD2:Hid (CBox (W1.setCell ⟨n4,2,none⟩ (.bool (truthB b.pub l.pub r.pub))) n4 69 #[.int .i64 l.id,.int .i64 0,.bool (truthB b.pub l.pub r.pub),.slice none 0 0,.bool false,.int .i64 0,.string ⟨#[]⟩,.string ⟨#[]⟩,.int .i64 0,.int .i64 0,.slice none 0 0]):=HD1.out.set 2 _
 have HW2:Hid (Bw W0 (W1.setCell ⟨n4,2,none⟩ (.bool (truthB b.pub l.pub r.pub)))):=HW1.out.trans (((Mod.refl [n4] W1).setCell (p:=⟨n4,2,none⟩) (by simp) (.bool (truthB b.pub l.pub r.pub))).upto HW1.out.size (by intro q hq;simp at hq;have:=HN4.out.1;omega));generalize World.setCell _ ⟨n4,2,none⟩ _ = W2 at *;clear HD1 HW1;have b4:=(Gb.out.below HW2.out).cell (i:=4) (v:=.bool b.doubt) rfl;have bl:=(Gb.out.below HW2.out).lt;have l4:=(Gl.out.below HW2.out).cell (i:=4) (v:=.bool l.doubt) rfl;have ll:=(Gl.out.below HW2.out).lt
 have r4:=(Gr.out.below HW2.out).cell (i:=4) (v:=.bool r.doubt) rfl;have rl:=(Gr.out.below HW2.out).lt;have d4:=HD2.out.cell (i:=4) (v:=.bool false) rfl;have e4:=HD2.out.frozen 4;have dl:=HD2.out.lt;go_upto_region 4 with (go_at_call 157;refine (HCB.out _ _ _ _).mono ?_;rintro e w' ⟨rfl,hw9⟩;subst w')
 clear b4 l4 r4 bl ll rl;clear d4 e4 dl;have HD3:Hid (CBox (W2.setCell ⟨n4,4,none⟩ (.bool (truthB b.doubt l.doubt r.doubt))) n4 69 #[.int .i64 l.id,.int .i64 0,.bool (truthB b.pub l.pub r.pub),.slice none 0 0,.bool (truthB b.doubt l.doubt r.doubt),.int .i64 0,.string ⟨#[]⟩,.string ⟨#[]⟩,.int .i64 0,.int .i64 0,.slice none 0 0]):=HD2.out.set 4 _
 have HW3:Hid (Bw W0 (W2.setCell ⟨n4,4,none⟩ (.bool (truthB b.doubt l.doubt r.doubt)))):=HW2.out.trans (((Mod.refl [n4] W2).setCell (p:=⟨n4,4,none⟩) (by simp) (.bool (truthB b.doubt l.doubt r.doubt))).upto HW2.out.size (by intro q hq;simp at hq;have:=HN4.out.1;omega));generalize World.setCell _ ⟨n4,4,none⟩ _ = W3 at *;clear HD2 HW2;have b1:=(Gb.out.below HW3.out).cell (i:=1) (v:=.int .i64 b.kind) rfl;have bl:=(Gb.out.below HW3.out).lt;have l1:=(Gl.out.below HW3.out).cell (i:=1) (v:=.int .i64 l.kind) rfl;have ll:=(Gl.out.below HW3.out).lt
 have r1:=(Gr.out.below HW3.out).cell (i:=1) (v:=.int .i64 r.kind) rfl;have rl:=(Gr.out.below HW3.out).lt;go_upto_region 5 with (go_at_call 217;refine (HCI.out _ _ _ _).mono ?_;rintro e w' ⟨rfl,hw9⟩;subst w')
 clear b1 l1 r1 bl ll rl;generalize pickI b.kind l.kind r.kind = pk at *;generalize okI b.kind l.kind r.kind = ok at *;generalize hkm:kindM b.kind l.kind r.kind = km at *;generalize hkc:kindC b.kind l.kind r.kind = kc at *;have HKM:=lH hkm;have HKC:=lH hkc;clear hkm hkc;go_upto_if 50 with (fail)
 go_cut [9] from 51 to 56 (fun v wx => v = .int .i64 km∧CBox wx n4 69 #[.int .i64 l.id,.int .i64 0,.bool (truthB b.pub l.pub r.pub),.slice none 0 0,.bool (truthB b.doubt l.doubt r.doubt || kc),.int .i64 0,.string ⟨#[]⟩,.string ⟨#[]⟩,.int .i64 0,.int .i64 0,.slice none 0 0]∧Bw W0 wx)
 case first =>
  cases ok with
  | true =>
   obtain ⟨h1,h2⟩:=HKO.out rfl;have HP:=lH h1;have HQ:=lH h2;clear h1 h2;simp only [Bool.not_true]
   go_wp2;go_meet
   case rel => exact ⟨by rw [HP.out],by rw [HQ.out,Bool.or_false];exact HD3.out,HW3.out⟩
  | false =>
   obtain ⟨h1,h2⟩:=HKN.out rfl;have HP:=lH h1;have HQ:=lH h2;clear h1 h2;simp only [Bool.not_false]
   have l1:=(Gl.out.below HW3.out).cell (i:=1) (v:=.int .i64 l.kind) rfl;have ll:=(Gl.out.below HW3.out).lt;have r1:=(Gr.out.below HW3.out).cell (i:=1) (v:=.int .i64 r.kind) rfl;have rl:=(Gr.out.below HW3.out).lt;have d4:=HD3.out.cell (i:=4) (v:=.bool (truthB b.doubt l.doubt r.doubt)) rfl;have e4:=HD3.out.frozen 4;have dl:=HD3.out.lt;go_wp2;go_meet
   case rel => exact ⟨by rw [← HP.out];try rfl,by rw [HQ.out,Bool.or_true];exact HD3.out.set 4 _,HW3.out.trans (((Mod.refl [n4] W3).setCell (p:=⟨n4,4,none⟩) (by simp) (.bool true)).upto HW3.out.size (by intro q hq;simp at hq;have:=HN4.out.1;omega))⟩
 case rest =>
 obtain ⟨rfl,hd4,hw4⟩:=hcut;generalize wc = W4 at *;have HD4:=lH hd4;have HW4:=lH hw4;clear hd4 hw4 HD3 HW3 HKO HKN;have d1:=HD4.out.cell (i:=1) (v:=.int .i64 0) rfl;have e1:=HD4.out.frozen 1;have dl:=HD4.out.lt;go_upto_region 9 with (fail)
 clear d1 e1 dl;have HD5:Hid (CBox (W4.setCell ⟨n4,1,none⟩ (.int .i64 km)) n4 69 #[.int .i64 l.id,.int .i64 km,.bool (truthB b.pub l.pub r.pub),.slice none 0 0,.bool (truthB b.doubt l.doubt r.doubt || kc),.int .i64 0,.string ⟨#[]⟩,.string ⟨#[]⟩,.int .i64 0,.int .i64 0,.slice none 0 0]):=HD4.out.set 1 _;have HW5:Hid (Bw W0 (W4.setCell ⟨n4,1,none⟩ (.int .i64 km))):=HW4.out.trans (((Mod.refl [n4] W4).setCell (p:=⟨n4,1,none⟩) (by simp) (.int .i64 km)).upto HW4.out.size (by intro q hq;simp at hq;have:=HN4.out.1;omega))
 generalize World.setCell _ ⟨n4,1,none⟩ _ = W5 at *;clear HD4 HW4;have b3:=(Gb.out.below HW5.out).cell (i:=3) (v:=.slice anb b.names.length cnb) rfl;have bl:=(Gb.out.below HW5.out).lt;have l3:=(Gl.out.below HW5.out).cell (i:=3) (v:=.slice anl l.names.length cnl) rfl;have ll:=(Gl.out.below HW5.out).lt;have r3:=(Gr.out.below HW5.out).cell (i:=3) (v:=.slice anr r.names.length cnr) rfl;have rl:=(Gr.out.below HW5.out).lt;have HWA:=lH (hA.trans (HW5.out.mono hA.size))
 have HCS:=lH (chooseS_any b.names l.names r.names anb anl anr cnb cnl cnr W5 (reads_strs.1 (HB.out.below HWA.out).names).1 (reads_strs.1 (HL.out.below HWA.out).names).1 (reads_strs.1 (HR.out.below HWA.out).names).1 HSL.out.len HSR.out.len);have HNO:=lH (names_ok (b:=b.names) (l:=l.names) (r:=r.names) (vl:=.slice anl l.names.length cnl) (vr:=.slice anr r.names.length cnr));have HNN:=lH (names_not (b:=b.names) (l:=l.names) (r:=r.names));generalize pickS b.names l.names r.names (.slice anl l.names.length cnl) (.slice anr r.names.length cnr) = pv at *
 generalize okS b.names l.names r.names = ok2 at *;go_wp2_with (fail)
 refine HCS.out.mono ?_;rintro e W6 ⟨rfl,hb6⟩;have HD6:=lH (HD5.out.below hb6);have HW6:Hid (Bw W0 W6):=HW5.out.trans (hb6.mono HW5.out.size);have HWA:=lH (hA.trans (HW6.out.mono hA.size));clear b3 l3 r3 bl ll rl hb6 HD5 HW5 HCS;go_upto_if 70 with (fail)
 generalize hnm:namesM b.names l.names r.names = nm at *;have HNM:=lH hnm;clear hnm
 go_cut [11] from 71 to 100 (fun v wx => ∃ an cn,v = .slice an nm.length cn∧Reads wx (n4 :: n3 :: X) (strsT nm) (.slice an nm.length cn)∧nm.length≤cn∧cn≤9223372036854775807∧namesC b.names l.names r.names = false∧CBox wx n4 69 #[.int .i64 l.id,.int .i64 km,.bool (truthB b.pub l.pub r.pub),.slice none 0 0,.bool (truthB b.doubt l.doubt r.doubt || kc),.int .i64 0,.string ⟨#[]⟩,.string ⟨#[]⟩,.int .i64 0,.int .i64 0,.slice none 0 0]∧Bw W0 wx)
 case first =>
  have HMR:Hid (∀ (d:ODecl) (an:Option Addr) (cn:Nat) (sa:Option Addr) (cs:Nat),DecX w X d an cn sa cs→DecX W6 (n4 :: n3 :: X) d an cn sa cs):=fun d an cn sa cs h => ((h.more (k:=n3) (by omega)).more (k:=n4) (by have:=HN4.out.2;omega)).below HWA.out
  cases ok2 with
  | true =>
   obtain ⟨hpv,hnc⟩:=HNO.out rfl;have HNC:=lH hnc;clear hnc;simp only [Bool.not_true]
   rcases hpv with ⟨rfl,hn⟩ | ⟨rfl,hn⟩
   ·have HN9:=lH hn
    clear hn;go_wp2;go_meet
    case rel => exact ⟨anl,cnl,by rw [HN9.out],by rw [HN9.out];exact (HMR.out _ _ _ _ _ HL.out).names,by rw [HN9.out];exact HL.out.hn1,HL.out.hn2,HNC.out,HD6.out,HW6.out⟩
   ·have HN9:=lH hn
    clear hn;go_wp2;go_meet
    case rel => exact ⟨anr,cnr,by rw [HN9.out],by rw [HN9.out];exact (HMR.out _ _ _ _ _ HR.out).names,by rw [HN9.out];exact HR.out.hn1,HR.out.hn2,HNC.out,HD6.out,HW6.out⟩
  | false =>
   obtain ⟨hn,hnc⟩:=HNN.out rfl;have HN9:=lH hn;have HNC:=lH hnc;clear hn hnc;simp only [Bool.not_false]
   have b3:=(Gb.out.below HW6.out).cell (i:=3) (v:=.slice anb b.names.length cnb) rfl;have bl:=(Gb.out.below HW6.out).lt;have l3:=(Gl.out.below HW6.out).cell (i:=3) (v:=.slice anl l.names.length cnl) rfl;have ll:=(Gl.out.below HW6.out).lt;have r3:=(Gr.out.below HW6.out).cell (i:=3) (v:=.slice anr r.names.length cnr) rfl;have rl:=(Gr.out.below HW6.out).lt
   by_cases eb:b.names.length = 1
   ·have tb:((b.names.length:Int) != 1) = false:=by rw [eb];rfl
    by_cases el:l.names.length = 1
    ·have tl:((l.names.length:Int) != 1) = false:=by rw [el];rfl
     by_cases er:r.names.length = 1
     ·have tr:((r.names.length:Int) != 1) = false:=by rw [er];rfl
      obtain ⟨sb,hsb⟩:=List.length_eq_one_iff.1 eb;obtain ⟨sl,hsl⟩:=List.length_eq_one_iff.1 el;obtain ⟨sr,hsr⟩:=List.length_eq_one_iff.1 er;have HNC2:Hid (namesC b.names l.names r.names = false):=by show _ = _;rw [HNC.out,eb,el,er];rfl
      have HN3:Hid (nm = [sl,sb,sr]):=by show _ = _;rw [HN9.out,hsb,hsl,hsr];rfl
      obtain ⟨bb,bo,rfl,hb1,hc1⟩:=one_name (HB.out.below HWA.out).names hsb;obtain ⟨lb,lo,rfl,hb2,hc2⟩:=one_name (HL.out.below HWA.out).names hsl;obtain ⟨rb,ro,rfl,hb3,hc3⟩:=one_name (HR.out.below HWA.out).names hsr;have lb0:(0:Int) < (b.names.length:Int):=by omega
      have ll0:(0:Int) < (l.names.length:Int):=by omega
      have lr0:(0:Int) < (r.names.length:Int):=by omega
      have lbn:0 < b.names.length:=by omega
      have lln:0 < l.names.length:=by omega
      have lrn:0 < r.names.length:=by omega
      have hb0:Bw W6 W6.drew:=(Mod.refl [] W6).drew.below
      have hS:(fun W:World => W.cell? ⟨w.heap.size,3,none⟩ = some (.slice (some ⟨bb,bo,none⟩) b.names.length cnb)∧W.cell? ⟨n1,3,none⟩ = some (.slice (some ⟨lb,lo,none⟩) l.names.length cnl)∧W.cell? ⟨n2,3,none⟩ = some (.slice (some ⟨rb,ro,none⟩) r.names.length cnr)∧W.cell? ⟨bb,bo,none⟩ = some (.string sb)∧W.cell? ⟨lb,lo,none⟩ = some (.string sl)∧W.cell? ⟨rb,ro,none⟩ = some (.string sr)∧w.heap.size < W.heap.size∧n1 < W.heap.size∧n2 < W.heap.size∧bb < W.heap.size∧lb < W.heap.size∧rb < W.heap.size) W6.drew:=⟨(hb0.cell (p:=⟨w.heap.size,_,none⟩) bl).trans b3,(hb0.cell (p:=⟨n1,_,none⟩) ll).trans l3,(hb0.cell (p:=⟨n2,_,none⟩) rl).trans r3,(hb0.cell (p:=⟨bb,_,none⟩) hb1).trans hc1,(hb0.cell (p:=⟨lb,_,none⟩) hb2).trans hc2,(hb0.cell (p:=⟨rb,_,none⟩) hb3).trans hc3,bl,ll,rl,hb1,hb2,hb3⟩
      clear eb el er hsb hsl hsr hc1 hc2 hc3;go_upto_region 13 with (fail)
      refine wp_region_noPanic (region_planG (fun W:World => W.cell? ⟨w.heap.size,3,none⟩ = some (.slice (some ⟨bb,bo,none⟩) b.names.length cnb)∧W.cell? ⟨n1,3,none⟩ = some (.slice (some ⟨lb,lo,none⟩) l.names.length cnl)∧W.cell? ⟨n2,3,none⟩ = some (.slice (some ⟨rb,ro,none⟩) r.names.length cnr)∧W.cell? ⟨bb,bo,none⟩ = some (.string sb)∧W.cell? ⟨lb,lo,none⟩ = some (.string sl)∧W.cell? ⟨rb,ro,none⟩ = some (.string sr)∧w.heap.size < W.heap.size∧n1 < W.heap.size∧n2 < W.heap.size∧bb < W.heap.size∧lb < W.heap.size∧rb < W.heap.size) 12 [(true,0),(true,1),(true,2),(true,3),(true,4),(true,5),(true,6),(true,7),(true,8),(true,9),(true,10),(true,11)] mixedK (by kernel_rfl) (fun _ _ _ _ _ h => h) hS ?_)
      clear hS b3 l3 r3 bl ll rl hb1 hb2 hb3
      iterate 12 (refine planG_take (v:=?_) rfl (by rfl) ?_ ?_;rotate_left;(focus (intro wq hSw;(try dsimp only at hSw);go_simp;(try rw [if_neg (by first | omega | (simp;omega))]);(try with_reducible rfl)));(try simp only [gA,gB,gC,Act.put,gD,gE,gF]))
      refine planG_end ?_;generalize W6.drew = v0 at *;have hal:=qtrans hb0 (qalloc v0 (.cells #[.string sl,.string sb,.string sr] 9));have hge:=hb0.size
      have HST:Hid (Strs (v0.alloc (.cells #[.string sl,.string sb,.string sr] 9)) (.slice (some ⟨v0.heap.size,0,none⟩) 3 3) [sl,sb,sr]):=⟨rfl,some ⟨v0.heap.size,0,none⟩,3,rfl,Nat.le_refl _,by unfold maxLen;omega,fun _ => ⟨v0.heap.size,0,rfl,by rw [World.size_alloc];omega,fun j q hj => by rw [Nat.zero_add];exact (CBox.new v0 9 #[.string sl,.string sb,.string sr]).cell (i:=j) (v:=q) (by rw [List.getElem?_toArray];exact hj)⟩⟩;go_wp2;refine NoPanic.normal ?_;go_wp2;go_meet
      case rel => exact ⟨some ⟨v0.heap.size,0,none⟩,3,by rw [HN3.out];rfl,by rw [HN3.out];exact reads_strs.2 ⟨HST.out,fun _ k hk => by cases hk;show v0.heap.size ∉ _;exact fun h => by have h1:=HD6.out.lt;rcases List.mem_cons.1 h with h | h;omega;rcases List.mem_cons.1 h with h | h;(have:=HN4.out.2;omega);have:=HX.out _ h;have:=HWA.out.size;omega⟩,by rw [HN3.out];exact Nat.le_refl _,by decide,HNC2.out,HD6.out.below hal,HW6.out.trans (hal.mono HW6.out.size)⟩
     ·have tr:((r.names.length:Int) != 1) = true:=by simp;omega
      have HER:Hid (bothErr b l r = 17):=by show _ = _;unfold bothErr;rw [HNC.out,if_pos (by first | (simp [eb];done) | (simp [eb,el];done) | (simp [eb,el,er];done))]
      obtain ⟨o0,o1,o2,o3,o4,o5,o6,o7,o8,o9,o10,ol⟩:=cells11 (Go.out.below HW6.out);obtain ⟨fo0,fo1,fo2,fo3,fo4,fo5,fo6,fo7,fo8,fo9,fo10⟩:=frozen11 (Go.out.below HW6.out);clear eb;go_wp2;clear o0 fo0 o1 fo1 o2 fo2 o3 fo3 o4 fo4 o5 fo5 o6 fo6 o7 fo7 o8 fo8 o9 fo9 o10 fo10 ol;obtain ⟨HC9,HM9⟩:=CBox.putZ (Go.out.below HW6.out);generalize World.setCell _ ⟨n3,10,none⟩ _ = WZ at *;obtain ⟨r0,r1,r2,r3,r4,r5,r6,r7,r8,r9,r10,-⟩:=cells11 HC9
      refine bodyPost_ret (by simp [results,Tryz.results162,go_sem,r0,r1,r2,r3,r4,r5,r6,r7,r8,r9,r10];try rfl) rfl ?_;have hdZ:Bw w WZ:=HWA.out.trans (HM9.upto HWA.out.size (by intro k hk;simp at hk;omega));exact MergedD.bad HER.out (by decide) hdZ
    ·have tl:((l.names.length:Int) != 1) = true:=by simp;omega
     have HER:Hid (bothErr b l r = 17):=by show _ = _;unfold bothErr;rw [HNC.out,if_pos (by first | (simp [eb];done) | (simp [eb,el];done) | (simp [eb,el,er];done))]
     obtain ⟨o0,o1,o2,o3,o4,o5,o6,o7,o8,o9,o10,ol⟩:=cells11 (Go.out.below HW6.out);obtain ⟨fo0,fo1,fo2,fo3,fo4,fo5,fo6,fo7,fo8,fo9,fo10⟩:=frozen11 (Go.out.below HW6.out);clear eb;go_wp2;clear o0 fo0 o1 fo1 o2 fo2 o3 fo3 o4 fo4 o5 fo5 o6 fo6 o7 fo7 o8 fo8 o9 fo9 o10 fo10 ol;obtain ⟨HC9,HM9⟩:=CBox.putZ (Go.out.below HW6.out);generalize World.setCell _ ⟨n3,10,none⟩ _ = WZ at *;obtain ⟨r0,r1,r2,r3,r4,r5,r6,r7,r8,r9,r10,-⟩:=cells11 HC9
     refine bodyPost_ret (by simp [results,Tryz.results162,go_sem,r0,r1,r2,r3,r4,r5,r6,r7,r8,r9,r10];try rfl) rfl ?_;have hdZ:Bw w WZ:=HWA.out.trans (HM9.upto HWA.out.size (by intro k hk;simp at hk;omega));exact MergedD.bad HER.out (by decide) hdZ
   ·have tb:((b.names.length:Int) != 1) = true:=by simp;omega
    have HER:Hid (bothErr b l r = 17):=by show _ = _;unfold bothErr;rw [HNC.out,if_pos (by first | (simp [eb];done) | (simp [eb,el];done) | (simp [eb,el,er];done))]
    obtain ⟨o0,o1,o2,o3,o4,o5,o6,o7,o8,o9,o10,ol⟩:=cells11 (Go.out.below HW6.out);obtain ⟨fo0,fo1,fo2,fo3,fo4,fo5,fo6,fo7,fo8,fo9,fo10⟩:=frozen11 (Go.out.below HW6.out);clear eb;go_wp2;clear o0 fo0 o1 fo1 o2 fo2 o3 fo3 o4 fo4 o5 fo5 o6 fo6 o7 fo7 o8 fo8 o9 fo9 o10 fo10 ol;obtain ⟨HC9,HM9⟩:=CBox.putZ (Go.out.below HW6.out);generalize World.setCell _ ⟨n3,10,none⟩ _ = WZ at *;obtain ⟨r0,r1,r2,r3,r4,r5,r6,r7,r8,r9,r10,-⟩:=cells11 HC9
    refine bodyPost_ret (by simp [results,Tryz.results162,go_sem,r0,r1,r2,r3,r4,r5,r6,r7,r8,r9,r10];try rfl) rfl ?_;have hdZ:Bw w WZ:=HWA.out.trans (HM9.upto HWA.out.size (by intro k hk;simp at hk;omega));exact MergedD.bad HER.out (by decide) hdZ
 case rest =>
 obtain ⟨an,cn,rfl,hnr,hnl1,hnl2,hnc,hd7,hw7⟩:=hcut;generalize wc = W7 at *;have HD7:=lH hd7;have HW7:=lH hw7;have HNR:=lH hnr;have HNC:=lH hnc;clear hd7 hw7 hnr hnc HD6 HW6 HWA HNO HNN;have d3:=HD7.out.cell (i:=3) (v:=.slice none 0 0) rfl;have e3:=HD7.out.frozen 3;have dl:=HD7.out.lt;go_upto_region 15 with (fail)
 clear d3 e3 dl;have HD8:Hid (CBox (W7.setCell ⟨n4,3,none⟩ (.slice an nm.length cn)) n4 69 #[.int .i64 l.id,.int .i64 km,.bool (truthB b.pub l.pub r.pub),.slice an nm.length cn,.bool (truthB b.doubt l.doubt r.doubt || kc),.int .i64 0,.string ⟨#[]⟩,.string ⟨#[]⟩,.int .i64 0,.int .i64 0,.slice none 0 0]):=HD7.out.set 3 _;have HW8:Hid (Bw W0 (W7.setCell ⟨n4,3,none⟩ (.slice an nm.length cn))):=HW7.out.trans (((Mod.refl [n4] W7).setCell (p:=⟨n4,3,none⟩) (by simp) (.slice an nm.length cn)).upto HW7.out.size (by intro q hq;simp at hq;have:=HN4.out.1;omega))
 have HM78:Hid (Mod [n4] W7 (W7.setCell ⟨n4,3,none⟩ (.slice an nm.length cn))):=(Mod.refl [n4] W7).setCell (p:=⟨n4,3,none⟩) (by simp) _;generalize World.setCell _ ⟨n4,3,none⟩ _ = W8 at *;clear HD7 HW7;have HNR8:Hid (Reads W8 (n4 :: n3 :: X) (strsT nm) (.slice an nm.length cn)):=HNR.out.mod (HM78.out.mono inC);obtain ⟨-,-,-,-,-,b5,b6,b7,b8,b9,b10,bl⟩:=cells11 (Gb.out.below HW8.out);obtain ⟨-,-,-,-,-,l5,l6,l7,l8,l9,l10,ll⟩:=cells11 (Gl.out.below HW8.out);obtain ⟨-,-,-,-,-,r5,r6,r7,r8,r9,r10,rl⟩:=cells11 (Gr.out.below HW8.out)
 have HWA:=lH (hA.trans (HW8.out.mono hA.size));have HMR:Hid (∀ (d:ODecl) (an:Option Addr) (cn:Nat) (sa:Option Addr) (cs:Nat),DecX w X d an cn sa cs→DecX W8 (n4 :: n3 :: X) d an cn sa cs):=fun d an cn sa cs h => ((h.more (k:=n3) (by omega)).more (k:=n4) (by have:=HN4.out.2;omega)).below HWA.out
 have HXs:∀ k,k∈n4 :: n3 :: X→k < W8.heap.size:=fun k hk => by
  have h1:=HD8.out.lt
  rcases List.mem_cons.1 hk with rfl | hk
  ·exact h1
  ·rcases List.mem_cons.1 hk with rfl | hk
   ·have:=HN4.out.2;omega
   ·have:=HX.out k hk;have:=HWA.out.size;omega
 have HXM:=lH (xMerge_any b.body l.body r.body asb asl asr csb csl csr (n4 :: n3 :: X) W8 HXs (HMR.out _ _ _ _ _ HB.out).body (HMR.out _ _ _ _ _ HL.out).body (HMR.out _ _ _ _ _ HR.out).body HSB.out.body HSL.out.body HSR.out.body nb nl nr);clear HXs HMR;unfold exV at HXM;go_wp2_with (fail)
 refine HXM.out.mono ?_;rintro e W9 ⟨⟨xa,xc,rfl,hx,hb9⟩⟩;clear HXM b5 b6 b7 b8 b9 b10 l5 l6 l7 l8 l9 l10 r5 r6 r7 r8 r9 r10 bl ll rl;unfold exV;generalize hO:mergeXOut b.body l.body r.body = O at *;generalize hQ:mergeXErr b.body l.body r.body = q at *;have HOO:=lH hO;have HQQ:=lH hQ;clear hO hQ;have HBE:Hid (bothErr b l r = q):=by show _ = _;unfold bothErr;rw [HNC.out,if_neg Bool.false_ne_true];exact HQQ.out
 have hal:=qalloc W9 (.cells (xA O xa xc) 66);have hb10:=qtrans hb9 hal;have HDA:=lH (HD8.out.below hb10);have HWB:Hid (Bw W0 _):=HW8.out.trans (hb10.mono HW8.out.size);have HE:=lH (CBox.new W9 66 (xA O xa xc));have HXI:=lH (hx.below hal);have HNS:Hid (Reads _ (n4 :: n3 :: X) (strsT nm) (.slice an nm.length cn)):=HNR8.out.below hb10;clear hx hb9 hal hb10 HD8 HW8 HWA;go_upto_if 114 with (fail)
 generalize World.alloc W9 _ = W10 at *;obtain ⟨E,hE⟩:∃ E,W9.heap.size = E:=⟨_,rfl⟩;rw [hE] at HE ⊢;clear hE;have HW10:=HWB;have HWA:=lH (hA.trans (HW10.out.mono hA.size))
 by_cases hq:q = 0
 ·have q3:(q != 0) = false:=by rw [hq];rfl
  have HQ0:=lH hq;clear hq;rw [q3];obtain ⟨e0,e1,e2,e3,e4,e5,el⟩:=cells6 HE.out;obtain ⟨-,-,-,-,-,d5,d6,d7,d8,d9,d10,dl⟩:=cells11 HDA.out;obtain ⟨-,-,-,-,-,fd5,fd6,fd7,fd8,fd9,fd10⟩:=frozen11 HDA.out;go_upto_region 19 with (fail)
  clear e0 e1 e2 e3 e4 e5 d5 fd5 d6 fd6 d7 fd7 d8 fd8 d9 fd9 d10 fd10 el dl;have HDB0:Hid (CBox (W10.setCell ⟨n4,5,none⟩ (.int .i64 O.kind)) n4 69 #[.int .i64 l.id,.int .i64 km,.bool (truthB b.pub l.pub r.pub),.slice an nm.length cn,.bool (truthB b.doubt l.doubt r.doubt || kc),.int .i64 O.kind,.string ⟨#[]⟩,.string ⟨#[]⟩,.int .i64 0,.int .i64 0,.slice none 0 0]):=HDA.out.set 5 _
  have HDB1:Hid (CBox ((W10.setCell ⟨n4,5,none⟩ (.int .i64 O.kind)).setCell ⟨n4,6,none⟩ (.string O.name)) n4 69 #[.int .i64 l.id,.int .i64 km,.bool (truthB b.pub l.pub r.pub),.slice an nm.length cn,.bool (truthB b.doubt l.doubt r.doubt || kc),.int .i64 O.kind,.string O.name,.string ⟨#[]⟩,.int .i64 0,.int .i64 0,.slice none 0 0]):=HDB0.out.set 6 _
  have HDB2:Hid (CBox (((W10.setCell ⟨n4,5,none⟩ (.int .i64 O.kind)).setCell ⟨n4,6,none⟩ (.string O.name)).setCell ⟨n4,7,none⟩ (.string O.more)) n4 69 #[.int .i64 l.id,.int .i64 km,.bool (truthB b.pub l.pub r.pub),.slice an nm.length cn,.bool (truthB b.doubt l.doubt r.doubt || kc),.int .i64 O.kind,.string O.name,.string O.more,.int .i64 0,.int .i64 0,.slice none 0 0]):=HDB1.out.set 7 _
  have HDB3:Hid (CBox ((((W10.setCell ⟨n4,5,none⟩ (.int .i64 O.kind)).setCell ⟨n4,6,none⟩ (.string O.name)).setCell ⟨n4,7,none⟩ (.string O.more)).setCell ⟨n4,8,none⟩ (.int .i64 O.num)) n4 69 #[.int .i64 l.id,.int .i64 km,.bool (truthB b.pub l.pub r.pub),.slice an nm.length cn,.bool (truthB b.doubt l.doubt r.doubt || kc),.int .i64 O.kind,.string O.name,.string O.more,.int .i64 O.num,.int .i64 0,.slice none 0 0]):=HDB2.out.set 8 _
  have HDB4:Hid (CBox (((((W10.setCell ⟨n4,5,none⟩ (.int .i64 O.kind)).setCell ⟨n4,6,none⟩ (.string O.name)).setCell ⟨n4,7,none⟩ (.string O.more)).setCell ⟨n4,8,none⟩ (.int .i64 O.num)).setCell ⟨n4,9,none⟩ (.int .i64 O.den)) n4 69 #[.int .i64 l.id,.int .i64 km,.bool (truthB b.pub l.pub r.pub),.slice an nm.length cn,.bool (truthB b.doubt l.doubt r.doubt || kc),.int .i64 O.kind,.string O.name,.string O.more,.int .i64 O.num,.int .i64 O.den,.slice none 0 0]):=HDB3.out.set 9 _
  have HDB5:Hid (CBox ((((((W10.setCell ⟨n4,5,none⟩ (.int .i64 O.kind)).setCell ⟨n4,6,none⟩ (.string O.name)).setCell ⟨n4,7,none⟩ (.string O.more)).setCell ⟨n4,8,none⟩ (.int .i64 O.num)).setCell ⟨n4,9,none⟩ (.int .i64 O.den)).setCell ⟨n4,10,none⟩ (.slice xa O.subs.length xc)) n4 69 #[.int .i64 l.id,.int .i64 km,.bool (truthB b.pub l.pub r.pub),.slice an nm.length cn,.bool (truthB b.doubt l.doubt r.doubt || kc),.int .i64 O.kind,.string O.name,.string O.more,.int .i64 O.num,.int .i64 O.den,.slice xa O.subs.length xc]):=HDB4.out.set 10 _
  have HM:=(((((((Mod.refl [n4] W10).setCell (p:=⟨n4,5,none⟩) (by simp) (.int .i64 O.kind)).setCell (p:=⟨n4,6,none⟩) (by simp) (.string O.name)).setCell (p:=⟨n4,7,none⟩) (by simp) (.string O.more)).setCell (p:=⟨n4,8,none⟩) (by simp) (.int .i64 O.num)).setCell (p:=⟨n4,9,none⟩) (by simp) (.int .i64 O.den)).setCell (p:=⟨n4,10,none⟩) (by simp) (.slice xa O.subs.length xc));have HD11:=HDB5
  have HW11:Hid (Bw W0 ((((((W10.setCell ⟨n4,5,none⟩ (.int .i64 O.kind)).setCell ⟨n4,6,none⟩ (.string O.name)).setCell ⟨n4,7,none⟩ (.string O.more)).setCell ⟨n4,8,none⟩ (.int .i64 O.num)).setCell ⟨n4,9,none⟩ (.int .i64 O.den)).setCell ⟨n4,10,none⟩ (.slice xa O.subs.length xc))):=HW10.out.trans (HM.upto HW10.out.size (by intro q hq;simp at hq;have:=HN4.out.1;omega))
  have HX11:Hid (ExIn ((((((W10.setCell ⟨n4,5,none⟩ (.int .i64 O.kind)).setCell ⟨n4,6,none⟩ (.string O.name)).setCell ⟨n4,7,none⟩ (.string O.more)).setCell ⟨n4,8,none⟩ (.int .i64 O.num)).setCell ⟨n4,9,none⟩ (.int .i64 O.den)).setCell ⟨n4,10,none⟩ (.slice xa O.subs.length xc)) (n4 :: n3 :: X) O xa xc):=HXI.out.mod (HM.mono inC)
  have HN11:Hid (Reads ((((((W10.setCell ⟨n4,5,none⟩ (.int .i64 O.kind)).setCell ⟨n4,6,none⟩ (.string O.name)).setCell ⟨n4,7,none⟩ (.string O.more)).setCell ⟨n4,8,none⟩ (.int .i64 O.num)).setCell ⟨n4,9,none⟩ (.int .i64 O.den)).setCell ⟨n4,10,none⟩ (.slice xa O.subs.length xc)) (n4 :: n3 :: X) (strsT nm) (.slice an nm.length cn)):=HNS.out.mod (HM.mono inC);generalize World.setCell _ ⟨n4,10,none⟩ _ = W11 at *;clear HM HDB0 HDB1 HDB2 HDB3 HDB4 HDB5 HDA HWB HW10 HWA HE HXI HNS;have HWA:=lH (hA.trans (HW11.out.mono hA.size))
  obtain ⟨d0,d1,d2,d3,d4,d5,d6,d7,d8,d9,d10,dl⟩:=cells11 HD11.out;obtain ⟨o0,o1,o2,o3,o4,o5,o6,o7,o8,o9,o10,ol⟩:=cells11 (Go.out.below HW11.out);obtain ⟨fo0,fo1,fo2,fo3,fo4,fo5,fo6,fo7,fo8,fo9,fo10⟩:=frozen11 (Go.out.below HW11.out);go_wp2;clear o0 fo0 o1 fo1 o2 fo2 o3 fo3 o4 fo4 o5 fo5 o6 fo6 o7 fo7 o8 fo8 o9 fo9 o10 fo10 ol d0 d1 d2 d3 d4 d5 d6 d7 d8 d9 d10 dl
  obtain ⟨HC9,HM9⟩:=CBox.eleven (Go.out.below HW11.out) (.int .i64 l.id) (.int .i64 km) (.bool (truthB b.pub l.pub r.pub)) (.slice an nm.length cn) (.bool (truthB b.doubt l.doubt r.doubt || kc)) (.int .i64 O.kind) (.string O.name) (.string O.more) (.int .i64 O.num) (.int .i64 O.den) (.slice xa O.subs.length xc);generalize World.setCell _ ⟨n3,10,none⟩ _ = WZ at *;obtain ⟨r0,r1,r2,r3,r4,r5,r6,r7,r8,r9,r10,-⟩:=cells11 HC9;refine bodyPost_ret (by simp [results,Tryz.results162,go_sem,r0,r1,r2,r3,r4,r5,r6,r7,r8,r9,r10];try rfl) rfl ?_
  have hdZ:Bw w WZ:=HWA.out.trans (HM9.upto HWA.out.size (by intro k hk;simp at hk;omega));have h3:∀ k,k∈[n3]→k∈n4 :: n3 :: X:=fun k hk => by rw [List.mem_singleton.1 hk];exact List.mem_cons_of_mem _ (List.mem_cons_self ..)
  have hf:∀ k,k∈X→k∈n4 :: n3 :: X:=fun k hk => List.mem_cons_of_mem _ (List.mem_cons_of_mem _ hk);have hxZ:=(HX11.out.mod (HM9.mono h3)).fewer hf;have hnZ:=(HN11.out.mod (HM9.mono h3)).fewer hf;have h0:bothErr b l r = 0:=by rw [HBE.out];exact HQ0.out
  have hOx:mergeX b.body l.body r.body = O:=by have h1:=HOO.out;unfold mergeXOut at h1;rw [HQQ.out,if_pos HQ0.out] at h1;exact h1
  have hout:bothOut b l r = ⟨l.id,km,truthB b.pub l.pub r.pub,nm,truthB b.doubt l.doubt r.doubt || kc,O⟩:=by unfold bothOut;rw [if_pos h0];unfold bothM;rw [HKM.out,HKC.out,HNM.out,hOx]
  refine ⟨an,cn,xa,xc,?_,?_,hdZ⟩
  ·rw [hout,h0];rfl
  ·rw [hout];exact ⟨hnZ,hxZ.subs,hnl1,hnl2,hxZ.h1,hxZ.h2⟩
 ·have q3:(q != 0) = true:=by simp [hq]
  have HQ0:=lH hq;clear hq;rw [q3];obtain ⟨o0,o1,o2,o3,o4,o5,o6,o7,o8,o9,o10,ol⟩:=cells11 (Go.out.below HW10.out);obtain ⟨fo0,fo1,fo2,fo3,fo4,fo5,fo6,fo7,fo8,fo9,fo10⟩:=frozen11 (Go.out.below HW10.out);go_wp2;clear o0 fo0 o1 fo1 o2 fo2 o3 fo3 o4 fo4 o5 fo5 o6 fo6 o7 fo7 o8 fo8 o9 fo9 o10 fo10 ol;obtain ⟨HC9,HM9⟩:=CBox.putZ (Go.out.below HW10.out);generalize World.setCell _ ⟨n3,10,none⟩ _ = WZ at *;obtain ⟨r0,r1,r2,r3,r4,r5,r6,r7,r8,r9,r10,-⟩:=cells11 HC9
  refine bodyPost_ret (by simp [results,Tryz.results162,go_sem,r0,r1,r2,r3,r4,r5,r6,r7,r8,r9,r10];try rfl) rfl ?_;have hdZ:Bw w WZ:=HWA.out.trans (HM9.upto HWA.out.size (by intro k hk;simp at hk;omega));exact MergedD.bad HBE.out HQ0.out hdZ
end Go.Proofs.YtdpnfkjafhbndaaGreatDoor

