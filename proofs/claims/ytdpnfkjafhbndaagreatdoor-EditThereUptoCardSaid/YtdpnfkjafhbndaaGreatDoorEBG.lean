/- The setters of parts of a declaration. -/
import Derived.Test.YtdpnfkjafhbndaaGreatDoorEBE
import Derived.Test.YtdpnfkjafhbndaaGreatDoorEV1
namespace Go.Proofs.YtdpnfkjafhbndaaGreatDoor
open Go.RowKit Go.Shelf
attribute [local go_sem] Oper.semAt_some
theorem set_mid {α:Type} (A l R:List α) (i j:Nat) (v:α) (hi:i = A.length + j) (hj:j < l.length):(A ++ (l ++ R)).set i v = A ++ (l.set j v ++ R):=by
 subst hi;rw [List.set_append_right _ _ (by omega),Nat.add_sub_cancel_left,List.set_append_left _ _ hj]
theorem World.heap_setCell_other (w:World) {b k:Nat} (i:Nat) (v:Value) (h:k≠b):(w.setCell ⟨b,i,none⟩ v).heap[k]? = w.heap[k]?:=Below.heap_setCell w ⟨b,i,none⟩ v k h
theorem get_mid {α:Type} (A l R:List α) (i j:Nat) (u:α) (hi:i = A.length + j) (h:l[j]? = some u):(A ++ (l ++ R))[i]? = some u:=by
 subst hi;have hj:=(List.getElem?_eq_some_iff.1 h).1;rw [List.getElem?_append_right (by omega),Nat.add_sub_cancel_left,List.getElem?_append_left hj];exact h
set_option maxRecDepth 100000 in
set_option maxHeartbeats 1000000 in
theorem eff4_any (base gd cap n p:Nat) (d f:ODecl) (an:Option Addr) (cn:Nat) (sa:Option Addr) (cs:Nat) (bn:Option Addr) (cm:Nat) (sb:Option Addr) (ct:Nat) (A R:List Value) (w:World) (ho:w.ownsRow base 69 11 (.slice (some ⟨gd,0,none⟩) n cap) n (A ++ (declL d an cn sa cs ++ R))) (hp:p < n) (hA:A.length = p * 11) :
  Calls Tryz.prog 110 #[.pointer (some ⟨gd,p * 11,none⟩),declV f bn cm sb ct] w fun r w' => r = .returned (.tuple #[])∧w'.ownsRow base 69 11 (.slice (some ⟨gd,0,none⟩) n cap) n (A ++ (declL (setPart 7 d f) bn cm sa cs ++ R))∧Mod [gd] w w':=by
 obtain ⟨g',cur,e1,hc,hgB,hgl,hgf,_,_,_⟩:=owns_cells ho (by omega)
 injection e1 with e1
 injection e1 with e1
 subst e1;have c3:=hc (p * 11 + 3) _ (get_mid A (declL d an cn sa cs) R _ 3 (.slice an d.names.length cn) (by omega) rfl);have f3:=hgf (p * 11 + 3);obtain ⟨w1,hw1⟩:∃ w1,w1 = w.alloc (.cells #[.int .i64 f.id,.int .i64 f.kind,.bool f.pub,.slice bn f.names.length cm,.bool f.doubt,.int .i64 f.body.kind,.string f.body.name,.string f.body.more,.int .i64 f.body.num,.int .i64 f.body.den,.slice sb f.body.subs.length ct] 69):=⟨_,rfl⟩;have hb1:Below w.heap.size w w1:=by rw [hw1];exact qalloc _ _
 have HO:Hid ((w1.setCell ⟨gd,p * 11 + 3,none⟩ (.slice bn f.names.length cm)).ownsRow base 69 11 (.slice (some ⟨gd,0,none⟩) n cap) n (A ++ (declL (setPart 7 d f) bn cm sa cs ++ R))):=by
  have h0:=owns_below ho hb1;have h1:=owns_setc h0 (by omega) (p * 11 + 3) (.slice bn f.names.length cm);rw [set_mid A (declL d an cn sa cs) R _ 3 _ (by omega) (by simp [declL])] at h1;exact h1
 have HM:Hid (Mod [gd] w ((w1.setCell ⟨gd,p * 11 + 3,none⟩ (.slice bn f.names.length cm)))):=((Mod.mono (X:=[]) (Mod.of hb1) (fun k hk => by cases hk)).setCell (p:=⟨gd,p * 11 + 3,none⟩) (List.mem_singleton.2 rfl) _);obtain ⟨B,hB⟩:∃ B,B = w.heap.size:=⟨_,rfl⟩;have hbox:CBox w1 B 69 #[.int .i64 f.id,.int .i64 f.kind,.bool f.pub,.slice bn f.names.length cm,.bool f.doubt,.int .i64 f.body.kind,.string f.body.name,.string f.body.more,.int .i64 f.body.num,.int .i64 f.body.den,.slice sb f.body.subs.length ct]:=by rw [hw1,hB];exact CBox.new _ _ _
 have b3:=hbox.cell (i:=3) (v:=.slice bn f.names.length cm) rfl;have bl:=hbox.lt;have d3:=(hb1.cell (p:=⟨gd,_,none⟩) hgl).trans c3;have g3:=(hb1.frozen (p:=⟨gd,_,none⟩) hgl).trans f3;have gl:=Nat.lt_of_lt_of_le hgl hb1.size;clear ho hc hgf hb1 hbox c3 f3;unfold declV
 go_enter Tryz.func110,Tryz.ntmps110
 go_upto_region 1 with (fail)
 rw [← hw1,← hB];clear hw1 hB;go_wp2
 go_end0
 exact ⟨rfl,HO.out,HM.out⟩
set_option maxRecDepth 100000 in
set_option maxHeartbeats 1000000 in
theorem eff5_any (base gd cap n p:Nat) (d f:ODecl) (an:Option Addr) (cn:Nat) (sa:Option Addr) (cs:Nat) (bn:Option Addr) (cm:Nat) (sb:Option Addr) (ct:Nat) (A R:List Value) (w:World) (ho:w.ownsRow base 69 11 (.slice (some ⟨gd,0,none⟩) n cap) n (A ++ (declL d an cn sa cs ++ R))) (hp:p < n) (hA:A.length = p * 11) :
  Calls Tryz.prog 111 #[.pointer (some ⟨gd,p * 11,none⟩),declV f bn cm sb ct] w fun r w' => r = .returned (.tuple #[])∧w'.ownsRow base 69 11 (.slice (some ⟨gd,0,none⟩) n cap) n (A ++ (declL (setPart 8 d f) an cn sb ct ++ R))∧Mod [gd] w w':=by
 obtain ⟨g',cur,e1,hc,hgB,hgl,hgf,_,_,_⟩:=owns_cells ho (by omega)
 injection e1 with e1
 injection e1 with e1
 subst e1;have c5:=hc (p * 11 + 5) _ (get_mid A (declL d an cn sa cs) R _ 5 (.int .i64 d.body.kind) (by omega) rfl);have f5:=hgf (p * 11 + 5);have c6:=hc (p * 11 + 6) _ (get_mid A (declL d an cn sa cs) R _ 6 (.string d.body.name) (by omega) rfl);have f6:=hgf (p * 11 + 6);have c7:=hc (p * 11 + 7) _ (get_mid A (declL d an cn sa cs) R _ 7 (.string d.body.more) (by omega) rfl);have f7:=hgf (p * 11 + 7);have c8:=hc (p * 11 + 8) _ (get_mid A (declL d an cn sa cs) R _ 8 (.int .i64 d.body.num) (by omega) rfl);have f8:=hgf (p * 11 + 8)
 have c9:=hc (p * 11 + 9) _ (get_mid A (declL d an cn sa cs) R _ 9 (.int .i64 d.body.den) (by omega) rfl);have f9:=hgf (p * 11 + 9);have c10:=hc (p * 11 + 10) _ (get_mid A (declL d an cn sa cs) R _ 10 (.slice sa d.body.subs.length cs) (by omega) rfl);have f10:=hgf (p * 11 + 10);obtain ⟨w1,hw1⟩:∃ w1,w1 = w.alloc (.cells #[.int .i64 f.id,.int .i64 f.kind,.bool f.pub,.slice bn f.names.length cm,.bool f.doubt,.int .i64 f.body.kind,.string f.body.name,.string f.body.more,.int .i64 f.body.num,.int .i64 f.body.den,.slice sb f.body.subs.length ct] 69):=⟨_,rfl⟩
 have hb1:Below w.heap.size w w1:=by rw [hw1];exact qalloc _ _
 have HO:Hid (((((((w1.setCell ⟨gd,p * 11 + 5,none⟩ (.int .i64 f.body.kind)).setCell ⟨gd,p * 11 + 6,none⟩ (.string f.body.name)).setCell ⟨gd,p * 11 + 7,none⟩ (.string f.body.more)).setCell ⟨gd,p * 11 + 8,none⟩ (.int .i64 f.body.num)).setCell ⟨gd,p * 11 + 9,none⟩ (.int .i64 f.body.den)).setCell ⟨gd,p * 11 + 10,none⟩ (.slice sb f.body.subs.length ct)).ownsRow base 69 11 (.slice (some ⟨gd,0,none⟩) n cap) n (A ++ (declL (setPart 8 d f) an cn sb ct ++ R))):=by
  have h0:=owns_below ho hb1;have h1:=owns_setc h0 (by omega) (p * 11 + 5) (.int .i64 f.body.kind);rw [set_mid A (declL d an cn sa cs) R _ 5 _ (by omega) (by simp [declL])] at h1;have h2:=owns_setc h1 (by omega) (p * 11 + 6) (.string f.body.name);rw [set_mid A ((declL d an cn sa cs).set 5 (.int .i64 f.body.kind)) R _ 6 _ (by omega) (by simp [declL])] at h2;have h3:=owns_setc h2 (by omega) (p * 11 + 7) (.string f.body.more);rw [set_mid A (((declL d an cn sa cs).set 5 (.int .i64 f.body.kind)).set 6 (.string f.body.name)) R _ 7 _ (by omega) (by simp [declL])] at h3
  have h4:=owns_setc h3 (by omega) (p * 11 + 8) (.int .i64 f.body.num);rw [set_mid A ((((declL d an cn sa cs).set 5 (.int .i64 f.body.kind)).set 6 (.string f.body.name)).set 7 (.string f.body.more)) R _ 8 _ (by omega) (by simp [declL])] at h4;have h5:=owns_setc h4 (by omega) (p * 11 + 9) (.int .i64 f.body.den);rw [set_mid A (((((declL d an cn sa cs).set 5 (.int .i64 f.body.kind)).set 6 (.string f.body.name)).set 7 (.string f.body.more)).set 8 (.int .i64 f.body.num)) R _ 9 _ (by omega) (by simp [declL])] at h5
  have h6:=owns_setc h5 (by omega) (p * 11 + 10) (.slice sb f.body.subs.length ct);rw [set_mid A ((((((declL d an cn sa cs).set 5 (.int .i64 f.body.kind)).set 6 (.string f.body.name)).set 7 (.string f.body.more)).set 8 (.int .i64 f.body.num)).set 9 (.int .i64 f.body.den)) R _ 10 _ (by omega) (by simp [declL])] at h6;exact h6
 have HM:Hid (Mod [gd] w (((((((w1.setCell ⟨gd,p * 11 + 5,none⟩ (.int .i64 f.body.kind)).setCell ⟨gd,p * 11 + 6,none⟩ (.string f.body.name)).setCell ⟨gd,p * 11 + 7,none⟩ (.string f.body.more)).setCell ⟨gd,p * 11 + 8,none⟩ (.int .i64 f.body.num)).setCell ⟨gd,p * 11 + 9,none⟩ (.int .i64 f.body.den)).setCell ⟨gd,p * 11 + 10,none⟩ (.slice sb f.body.subs.length ct)))):=(((((((Mod.mono (X:=[]) (Mod.of hb1) (fun k hk => by cases hk)).setCell (p:=⟨gd,p * 11 + 5,none⟩) (List.mem_singleton.2 rfl) _).setCell (p:=⟨gd,p * 11 + 6,none⟩) (List.mem_singleton.2 rfl) _).setCell (p:=⟨gd,p * 11 + 7,none⟩) (List.mem_singleton.2 rfl) _).setCell (p:=⟨gd,p * 11 + 8,none⟩) (List.mem_singleton.2 rfl) _).setCell (p:=⟨gd,p * 11 + 9,none⟩) (List.mem_singleton.2 rfl) _).setCell (p:=⟨gd,p * 11 + 10,none⟩) (List.mem_singleton.2 rfl) _)
 obtain ⟨B,hB⟩:∃ B,B = w.heap.size:=⟨_,rfl⟩;have hbox:CBox w1 B 69 #[.int .i64 f.id,.int .i64 f.kind,.bool f.pub,.slice bn f.names.length cm,.bool f.doubt,.int .i64 f.body.kind,.string f.body.name,.string f.body.more,.int .i64 f.body.num,.int .i64 f.body.den,.slice sb f.body.subs.length ct]:=by rw [hw1,hB];exact CBox.new _ _ _
 have b5:=hbox.cell (i:=5) (v:=.int .i64 f.body.kind) rfl;have b6:=hbox.cell (i:=6) (v:=.string f.body.name) rfl;have b7:=hbox.cell (i:=7) (v:=.string f.body.more) rfl;have b8:=hbox.cell (i:=8) (v:=.int .i64 f.body.num) rfl;have b9:=hbox.cell (i:=9) (v:=.int .i64 f.body.den) rfl;have b10:=hbox.cell (i:=10) (v:=.slice sb f.body.subs.length ct) rfl;have bl:=hbox.lt;have d5:=(hb1.cell (p:=⟨gd,_,none⟩) hgl).trans c5;have g5:=(hb1.frozen (p:=⟨gd,_,none⟩) hgl).trans f5;have d6:=(hb1.cell (p:=⟨gd,_,none⟩) hgl).trans c6
 have g6:=(hb1.frozen (p:=⟨gd,_,none⟩) hgl).trans f6;have d7:=(hb1.cell (p:=⟨gd,_,none⟩) hgl).trans c7;have g7:=(hb1.frozen (p:=⟨gd,_,none⟩) hgl).trans f7;have d8:=(hb1.cell (p:=⟨gd,_,none⟩) hgl).trans c8;have g8:=(hb1.frozen (p:=⟨gd,_,none⟩) hgl).trans f8;have d9:=(hb1.cell (p:=⟨gd,_,none⟩) hgl).trans c9;have g9:=(hb1.frozen (p:=⟨gd,_,none⟩) hgl).trans f9;have d10:=(hb1.cell (p:=⟨gd,_,none⟩) hgl).trans c10;have g10:=(hb1.frozen (p:=⟨gd,_,none⟩) hgl).trans f10;have gl:=Nat.lt_of_lt_of_le hgl hb1.size
 clear ho hc hgf hb1 hbox c5 f5 c6 f6 c7 f7 c8 f8 c9 f9 c10 f10;unfold declV
 go_enter Tryz.func111,Tryz.ntmps111
 go_upto_region 1 with (fail)
 rw [← hw1,← hB];clear hw1 hB;go_wp2
 go_end0
 exact ⟨rfl,HO.out,HM.out⟩
set_option maxRecDepth 100000 in
set_option maxHeartbeats 1000000 in
theorem eff6_any (base gd cap n p:Nat) (d f:ODecl) (an:Option Addr) (cn:Nat) (sa:Option Addr) (cs:Nat) (bn:Option Addr) (cm:Nat) (sb:Option Addr) (ct:Nat) (A R:List Value) (w:World) (ho:w.ownsRow base 69 11 (.slice (some ⟨gd,0,none⟩) n cap) n (A ++ (declL d an cn sa cs ++ R))) (hp:p < n) (hA:A.length = p * 11) :
  Calls Tryz.prog 112 #[.pointer (some ⟨gd,p * 11,none⟩),declV f bn cm sb ct] w fun r w' => r = .returned (.tuple #[])∧w'.ownsRow base 69 11 (.slice (some ⟨gd,0,none⟩) n cap) n (A ++ (declL (setPart 9 d f) an cn sa cs ++ R))∧Mod [gd] w w':=by
 obtain ⟨g',cur,e1,hc,hgB,hgl,hgf,_,_,_⟩:=owns_cells ho (by omega)
 injection e1 with e1
 injection e1 with e1
 subst e1;have c1:=hc (p * 11 + 1) _ (get_mid A (declL d an cn sa cs) R _ 1 (.int .i64 d.kind) (by omega) rfl);have f1:=hgf (p * 11 + 1);have c2:=hc (p * 11 + 2) _ (get_mid A (declL d an cn sa cs) R _ 2 (.bool d.pub) (by omega) rfl);have f2:=hgf (p * 11 + 2);have c4:=hc (p * 11 + 4) _ (get_mid A (declL d an cn sa cs) R _ 4 (.bool d.doubt) (by omega) rfl);have f4:=hgf (p * 11 + 4)
 obtain ⟨w1,hw1⟩:∃ w1,w1 = w.alloc (.cells #[.int .i64 f.id,.int .i64 f.kind,.bool f.pub,.slice bn f.names.length cm,.bool f.doubt,.int .i64 f.body.kind,.string f.body.name,.string f.body.more,.int .i64 f.body.num,.int .i64 f.body.den,.slice sb f.body.subs.length ct] 69):=⟨_,rfl⟩;have hb1:Below w.heap.size w w1:=by rw [hw1];exact qalloc _ _
 have HO:Hid ((((w1.setCell ⟨gd,p * 11 + 1,none⟩ (.int .i64 f.kind)).setCell ⟨gd,p * 11 + 2,none⟩ (.bool f.pub)).setCell ⟨gd,p * 11 + 4,none⟩ (.bool f.doubt)).ownsRow base 69 11 (.slice (some ⟨gd,0,none⟩) n cap) n (A ++ (declL (setPart 9 d f) an cn sa cs ++ R))):=by
  have h0:=owns_below ho hb1;have h1:=owns_setc h0 (by omega) (p * 11 + 1) (.int .i64 f.kind);rw [set_mid A (declL d an cn sa cs) R _ 1 _ (by omega) (by simp [declL])] at h1;have h2:=owns_setc h1 (by omega) (p * 11 + 2) (.bool f.pub);rw [set_mid A ((declL d an cn sa cs).set 1 (.int .i64 f.kind)) R _ 2 _ (by omega) (by simp [declL])] at h2;have h3:=owns_setc h2 (by omega) (p * 11 + 4) (.bool f.doubt);rw [set_mid A (((declL d an cn sa cs).set 1 (.int .i64 f.kind)).set 2 (.bool f.pub)) R _ 4 _ (by omega) (by simp [declL])] at h3;exact h3
 have HM:Hid (Mod [gd] w ((((w1.setCell ⟨gd,p * 11 + 1,none⟩ (.int .i64 f.kind)).setCell ⟨gd,p * 11 + 2,none⟩ (.bool f.pub)).setCell ⟨gd,p * 11 + 4,none⟩ (.bool f.doubt)))):=((((Mod.mono (X:=[]) (Mod.of hb1) (fun k hk => by cases hk)).setCell (p:=⟨gd,p * 11 + 1,none⟩) (List.mem_singleton.2 rfl) _).setCell (p:=⟨gd,p * 11 + 2,none⟩) (List.mem_singleton.2 rfl) _).setCell (p:=⟨gd,p * 11 + 4,none⟩) (List.mem_singleton.2 rfl) _);obtain ⟨B,hB⟩:∃ B,B = w.heap.size:=⟨_,rfl⟩
 have hbox:CBox w1 B 69 #[.int .i64 f.id,.int .i64 f.kind,.bool f.pub,.slice bn f.names.length cm,.bool f.doubt,.int .i64 f.body.kind,.string f.body.name,.string f.body.more,.int .i64 f.body.num,.int .i64 f.body.den,.slice sb f.body.subs.length ct]:=by rw [hw1,hB];exact CBox.new _ _ _
 have hbx:=CBox.below hbox (Mod.refl [] w1).drew.below;have b1:=hbx.cell (i:=1) (v:=.int .i64 f.kind) rfl;have b2:=hbx.cell (i:=2) (v:=.bool f.pub) rfl;have b4:=hbx.cell (i:=4) (v:=.bool f.doubt) rfl;have bl:=hbx.lt;have HBX:=lH hbox;have HGB:Hid (B≠gd):=by show _≠_;omega
 have ht:Below w.heap.size w w1.drew:=qtrans hb1 (Mod.refl [] w1).drew.below;have k1:=(hb1.cell (p:=⟨gd,_,none⟩) hgl).trans c1;have l1:=(hb1.frozen (p:=⟨gd,_,none⟩) hgl).trans f1;have k2:=(hb1.cell (p:=⟨gd,_,none⟩) hgl).trans c2;have l2:=(hb1.frozen (p:=⟨gd,_,none⟩) hgl).trans f2;have k4:=(hb1.cell (p:=⟨gd,_,none⟩) hgl).trans c4;have l4:=(hb1.frozen (p:=⟨gd,_,none⟩) hgl).trans f4;have d1:=(ht.cell (p:=⟨gd,_,none⟩) hgl).trans c1;have g1:=(ht.frozen (p:=⟨gd,_,none⟩) hgl).trans f1;have d2:=(ht.cell (p:=⟨gd,_,none⟩) hgl).trans c2
 have g2:=(ht.frozen (p:=⟨gd,_,none⟩) hgl).trans f2;have d4:=(ht.cell (p:=⟨gd,_,none⟩) hgl).trans c4;have g4:=(ht.frozen (p:=⟨gd,_,none⟩) hgl).trans f4;have gl:=Nat.lt_of_lt_of_le hgl ht.size;have gl1:=Nat.lt_of_lt_of_le hgl hb1.size;have HO2:Hid (((((w1.drew.setCell ⟨gd,p * 11 + 1,none⟩ (.int .i64 f.kind)).setCell ⟨gd,p * 11 + 2,none⟩ (.bool f.pub)).setCell ⟨gd,p * 11 + 4,none⟩ (.bool f.doubt))).ownsRow base 69 11 (.slice (some ⟨gd,0,none⟩) n cap) n (A ++ (declL (setPart 9 d f) an cn sa cs ++ R))):=owns_below HO.out (Mod.refl [] _).drew.below
 have HM2:Hid (Mod [gd] w ((((w1.drew.setCell ⟨gd,p * 11 + 1,none⟩ (.int .i64 f.kind)).setCell ⟨gd,p * 11 + 2,none⟩ (.bool f.pub)).setCell ⟨gd,p * 11 + 4,none⟩ (.bool f.doubt)))):=HM.out.drew;clear ho hc hgf hb1 hbox hbx ht HO HM c1 f1 c2 f2 c4 f4;unfold declV
 go_enter Tryz.func112,Tryz.ntmps112
 go_upto_region 1 with (fail)
 rw [← hw1,← hB];clear hw1 hB
 have SB:∀ W:World,W.heap[B]? = w1.heap[B]?→(W.cell? ⟨B,1,none⟩ = some (.int .i64 f.kind)∧W.cell? ⟨B,2,none⟩ = some (.bool f.pub)∧W.cell? ⟨B,4,none⟩ = some (.bool f.doubt)):=fun W h => by
  have q:=h.trans HBX.out;exact ⟨CBox.cell (w:=W) q (i:=1) (v:=.int .i64 f.kind) rfl,CBox.cell (w:=W) q (i:=2) (v:=.bool f.pub) rfl,CBox.cell (w:=W) q (i:=4) (v:=.bool f.doubt) rfl⟩
 have HSB:=lH SB;clear SB;refine wp_region_noPanic (region_lex (fun W:World => W.cell? ⟨B,1,none⟩ = some (.int .i64 f.kind)∧W.cell? ⟨B,2,none⟩ = some (.bool f.pub)∧W.cell? ⟨B,4,none⟩ = some (.bool f.doubt)) [true,true,true,true,true,true,true,true,true,true,true,false,true,true,false,true,true,false] mixedK (by kernel_rfl) (fun _ _ _ _ _ h => h) (HSB.out _ rfl) (fun _ => ?_))
 iterate 11 (first | (refine lex_skip (by rfl) ?_;(try simp only [Act.put,List.setIfInBounds_toArray,List.set_cons_zero,List.set_cons_succ])) | (refine lex_take (v:=?_) (by rfl) ?_ ?_;rotate_left;(focus (intro wq hSw;(try dsimp only at hSw);go_simp;(try with_reducible rfl)));(try simp only [Act.put,List.setIfInBounds_toArray,List.set_cons_zero,List.set_cons_succ])))
 (refine lex_do (by rfl) (fun K hK => ?_);go_simp)
 refine hK.out _ _ (HSB.out _ (World.heap_setCell_other _ _ _ HGB.out)) (fun _ => ?_);clear hK K
 (try simp only [Act.put,List.setIfInBounds_toArray,List.set_cons_zero,List.set_cons_succ])
 iterate 2 (first | (refine lex_skip (by rfl) ?_;(try simp only [Act.put,List.setIfInBounds_toArray,List.set_cons_zero,List.set_cons_succ])) | (refine lex_take (v:=?_) (by rfl) ?_ ?_;rotate_left;(focus (intro wq hSw;(try dsimp only at hSw);go_simp;(try with_reducible rfl)));(try simp only [Act.put,List.setIfInBounds_toArray,List.set_cons_zero,List.set_cons_succ])))
 (refine lex_do (by rfl) (fun K hK => ?_);go_simp)
 refine hK.out _ _ (HSB.out _ ((World.heap_setCell_other _ _ _ HGB.out).trans (World.heap_setCell_other _ _ _ HGB.out))) (fun _ => ?_);clear hK K
 (try simp only [Act.put,List.setIfInBounds_toArray,List.set_cons_zero,List.set_cons_succ])
 iterate 2 (first | (refine lex_skip (by rfl) ?_;(try simp only [Act.put,List.setIfInBounds_toArray,List.set_cons_zero,List.set_cons_succ])) | (refine lex_take (v:=?_) (by rfl) ?_ ?_;rotate_left;(focus (intro wq hSw;(try dsimp only at hSw);go_simp;(try with_reducible rfl)));(try simp only [Act.put,List.setIfInBounds_toArray,List.set_cons_zero,List.set_cons_succ])))
 (refine lex_do (by rfl) (fun K hK => ?_);go_simp)
 refine hK.out _ _ (HSB.out _ ((World.heap_setCell_other _ _ _ HGB.out).trans ((World.heap_setCell_other _ _ _ HGB.out).trans (World.heap_setCell_other _ _ _ HGB.out)))) (fun _ => ?_);clear hK K
 (try simp only [Act.put,List.setIfInBounds_toArray,List.set_cons_zero,List.set_cons_succ])
 refine lex_end ?_;refine NoPanic.normal ?_;go_wp2
 go_end0
 exact ⟨rfl,HO2.out,HM2.out⟩
def Setter (k:Int) (F:FuncId):Prop:=
  ∀ (base gd cap n p:Nat) (d f:ODecl) (an:Option Addr) (cn:Nat) (sa:Option Addr) (cs:Nat) (bn:Option Addr) (cm:Nat) (sb:Option Addr) (ct:Nat) (A R:List Value) (w0 w:World),w.ownsRow base 69 11 (.slice (some ⟨gd,0,none⟩) n cap) n (A ++ (declL d an cn sa cs ++ R))→p < n→A.length = p * 11→DeclIn w0 d an cn sa cs→DeclIn w0 f bn cm sb ct →
    Calls Tryz.prog F #[.pointer (some ⟨gd,p * 11,none⟩),declV f bn cm sb ct] w fun r w' => r = .returned (.tuple #[])∧(∃ vs,w'.ownsRow base 69 11 (.slice (some ⟨gd,0,none⟩) n cap) n (A ++ (vs ++ R))∧ReadsL w0 [] (declT (setPart k d f)) vs)∧Mod [gd] w w'
theorem setter7:Setter 7 110:=fun base gd cap n p d f an cn sa cs bn cm sb ct A R _ w ho hp hA hd hf =>
 (eff4_any base gd cap n p d f an cn sa cs bn cm sb ct A R w ho hp hA).mono fun _ _ ⟨h1,h2,h3⟩ => ⟨h1,⟨_,h2,cells_decl hf.names hd.subs⟩,h3⟩
theorem setter8:Setter 8 111:=fun base gd cap n p d f an cn sa cs bn cm sb ct A R _ w ho hp hA hd hf =>
 (eff5_any base gd cap n p d f an cn sa cs bn cm sb ct A R w ho hp hA).mono fun _ _ ⟨h1,h2,h3⟩ => ⟨h1,⟨_,h2,cells_decl hd.names hf.subs⟩,h3⟩
theorem setter9:Setter 9 112:=fun base gd cap n p d f an cn sa cs bn cm sb ct A R _ w ho hp hA hd _ =>
 (eff6_any base gd cap n p d f an cn sa cs bn cm sb ct A R w ho hp hA).mono fun _ _ ⟨h1,h2,h3⟩ => ⟨h1,⟨_,h2,cells_decl hd.names hd.subs⟩,h3⟩
theorem row_decl {w:World} {l:List ODecl} {xs:List Value} (h:ReadsL w [] (l.flatMap declT) xs) {p:Nat} {y:ODecl} (hy:l[p]? = some y) :
    ∃ (A R:List Value) (an:Option Addr) (cn:Nat) (sa:Option Addr) (cs:Nat),xs = A ++ (declL y an cn sa cs ++ R)∧A.length = p * 11∧DeclIn w y an cn sa cs∧∀ (d:ODecl) (vs:List Value),ReadsL w [] (declT d) vs→ReadsL w [] ((l.set p d).flatMap declT) (A ++ (vs ++ R)):=by
  obtain ⟨hp,rfl⟩:=List.getElem?_eq_some_iff.1 hy
  have hl:l = l.take p ++ l[p] :: l.drop (p + 1):=by rw [← List.drop_eq_getElem_cons hp,List.take_append_drop]
  generalize l[p] = y at *
  have hP:(l.take p).length = p:=by rw [List.length_take];omega
  generalize l.take p = P at *
  generalize l.drop (p + 1) = Q at *
  subst hl
  have hf:(P.flatMap declT).length = p * 11:=by rw [flat_len,hP]
  rw [List.flatMap_append,List.flatMap_cons] at h
  have h1:=h.take (p * 11)
  have h2:=h.drop (p * 11)
  rw [List.take_left' hf] at h1
  rw [List.drop_left' hf] at h2
  have h3:=h2.take 11
  have h4:=h2.drop 11
  rw [List.take_left' (declT_len y)] at h3
  rw [List.drop_left' (declT_len y)] at h4
  obtain ⟨an,cn,sa,cs,e,n1,n2,HN,s1,s2,HS⟩:=decl_cells h3
  refine ⟨xs.take (p * 11),(xs.drop (p * 11)).drop 11,an,cn,sa,cs,?_,by rw [h1.len,hf],⟨HN,HS,n1,n2,s1,s2⟩,fun d vs hv => ?_⟩
  · rw [← e,List.take_append_drop,List.take_append_drop]
  · rw [set_split hP,List.flatMap_append,List.flatMap_cons]
    exact ReadsL.append (ReadsL.append h4 hv) h1
end Go.Proofs.YtdpnfkjafhbndaaGreatDoor

