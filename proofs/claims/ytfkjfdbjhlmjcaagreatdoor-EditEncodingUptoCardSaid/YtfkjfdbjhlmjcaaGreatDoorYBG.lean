/- The setters of parts of a declaration. -/
import Derived.Test.YtfkjfdbjhlmjcaaGreatDoorYBE
import Derived.Test.YtfkjfdbjhlmjcaaGreatDoorYV1
set_option maxRecDepth 100000
set_option maxHeartbeats 16000000
namespace Go.Proofs.YtfkjfdbjhlmjcaaGreatDoor
open Go.RowKit Go.Shelf
attribute [local go_sem] Oper.semAt_some
theorem zCd {α:Type} (A l R:List α) (i j:Nat) (v:α) (hi:i=A.length+j) (hj:j<l.length):(A++(l++R)).set i v=A++(l.set j v++R):=by
 subst hi;rw [List.set_append_right _ _ (by omega),Nat.add_sub_cancel_left,List.set_append_left _ _ hj]
theorem World.heap_setCell_other (w:World) {b k:Nat} (i:Nat) (v:Value) (h:k≠b):(w.setCell ⟨b,i,none⟩ v).heap[k]?=w.heap[k]?:=Below.heap_setCell w ⟨b,i,none⟩ v k h
theorem zCs {α:Type} (A l R:List α) (i j:Nat) (u:α) (hi:i=A.length+j) (h:l[j]?=some u):(A++(l++R))[i]?=some u:=by
 subst hi;have hj:=(List.getElem?_eq_some_iff.1 h).1;rw [List.getElem?_append_right (by omega),Nat.add_sub_cancel_left,List.getElem?_append_left hj];exact h
theorem zZt (base gd cap n p:Nat) (d f:ODecl) (an:Option Addr) (cn:Nat) (sa:Option Addr) (cs:Nat) (bn:Option Addr) (cm:Nat) (sb:Option Addr) (ct:Nat) (A R:List Value) (w:World) (ho:w.ownsRow base 62 11 (.slice (some ⟨gd,0,none⟩) n cap) n (A++(declL d an cn sa cs++R))) (hp:p<n) (hA:A.length=p * 11) :
  Calls Tryz.prog 79 #[.pointer (some ⟨gd,p * 11,none⟩),declV f bn cm sb ct] w fun r w'=>r=.returned (.tuple #[])∧w'.ownsRow base 62 11 (.slice (some ⟨gd,0,none⟩) n cap) n (A++(declL (setPart 7 d f) bn cm sa cs++R))∧Mod [gd] w w':=by
 obtain ⟨g',cur,e1,hc,hgB,hgl,hgf,_,_,_⟩:=zCk ho (by omega)
 injection e1 with e1
 injection e1 with e1
 subst e1;have c3:=hc (p * 11+3) _ (zCs A (declL d an cn sa cs) R _ 3 (.slice an d.names.length cn) (by omega) rfl);have f3:=hgf (p * 11+3);obtain ⟨w1,hw1⟩:∃w1,w1=w.alloc (.cells (dA f bn cm sb ct) 62):=⟨_,rfl⟩;have hb1:Bw w w1:=by rw [hw1];exact zAa _ _
 have HO:Hid ((w1.setCell ⟨gd,p * 11+3,none⟩ (.slice bn f.names.length cm)).ownsRow base 62 11 (.slice (some ⟨gd,0,none⟩) n cap) n (A++(declL (setPart 7 d f) bn cm sa cs++R))):=by
  have h0:=zAi ho hb1;have h1:=zC h0 (by omega) (p * 11+3) (.slice bn f.names.length cm);rw [zCd A (declL d an cn sa cs) R _ 3 _ (by omega) (by simp [declL])] at h1;exact h1
 have HM:Hid (Mod [gd] w ((w1.setCell ⟨gd,p * 11+3,none⟩ (.slice bn f.names.length cm)))):=((Mod.mono (X:=[]) (Mod.of hb1) (fun k hk=>by cases hk)).setCell (p:=⟨gd,p * 11+3,none⟩) (List.mem_singleton.2 rfl) _);obtain ⟨B,hB⟩:∃B,B=w.heap.size:=⟨_,rfl⟩;have hbox:CBox w1 B 62 (dA f bn cm sb ct):=by rw [hw1,hB];exact CBox.new _ _ _
 have b3:=hbox.cell (i:=3) (v:=.slice bn f.names.length cm) rfl;have bl:=hbox.lt;have d3:=(hb1.cell (p:=⟨gd,_,none⟩) hgl).trans c3;have g3:=(hb1.frozen (p:=⟨gd,_,none⟩) hgl).trans f3;have gl:=Nat.lt_of_lt_of_le hgl hb1.size;clear ho hc hgf hb1 hbox c3 f3;unfold declV
 go_enter Tryz.func79,Tryz.ntmps79
 go_upto_region 1 with (fail)
 rw [←hw1,←hB];clear hw1 hB;go_wp2
 go_end0
 exact ⟨rfl,HO.o,HM.o⟩
theorem zZu (base gd cap n p:Nat) (d f:ODecl) (an:Option Addr) (cn:Nat) (sa:Option Addr) (cs:Nat) (bn:Option Addr) (cm:Nat) (sb:Option Addr) (ct:Nat) (A R:List Value) (w:World) (ho:w.ownsRow base 62 11 (.slice (some ⟨gd,0,none⟩) n cap) n (A++(declL d an cn sa cs++R))) (hp:p<n) (hA:A.length=p * 11) :
  Calls Tryz.prog 80 #[.pointer (some ⟨gd,p * 11,none⟩),declV f bn cm sb ct] w fun r w'=>r=.returned (.tuple #[])∧w'.ownsRow base 62 11 (.slice (some ⟨gd,0,none⟩) n cap) n (A++(declL (setPart 8 d f) an cn sb ct++R))∧Mod [gd] w w':=by
 obtain ⟨g',cur,e1,hc,hgB,hgl,hgf,_,_,_⟩:=zCk ho (by omega)
 injection e1 with e1
 injection e1 with e1
 subst e1;have c5:=hc (p * 11+5) _ (zCs A (declL d an cn sa cs) R _ 5 (.int .i64 d.body.kind) (by omega) rfl);have f5:=hgf (p * 11+5);have c6:=hc (p * 11+6) _ (zCs A (declL d an cn sa cs) R _ 6 (.string d.body.name) (by omega) rfl);have f6:=hgf (p * 11+6);have c7:=hc (p * 11+7) _ (zCs A (declL d an cn sa cs) R _ 7 (.string d.body.more) (by omega) rfl);have f7:=hgf (p * 11+7);have c8:=hc (p * 11+8) _ (zCs A (declL d an cn sa cs) R _ 8 (.int .i64 d.body.num) (by omega) rfl);have f8:=hgf (p * 11+8)
 have c9:=hc (p * 11+9) _ (zCs A (declL d an cn sa cs) R _ 9 (.int .i64 d.body.den) (by omega) rfl);have f9:=hgf (p * 11+9);have c10:=hc (p * 11+10) _ (zCs A (declL d an cn sa cs) R _ 10 (.slice sa d.body.subs.length cs) (by omega) rfl);have f10:=hgf (p * 11+10);obtain ⟨w1,hw1⟩:∃w1,w1=w.alloc (.cells (dA f bn cm sb ct) 62):=⟨_,rfl⟩;have hb1:Bw w w1:=by rw [hw1];exact zAa _ _
 have HO:Hid (((((((w1.setCell ⟨gd,p * 11+5,none⟩ (.int .i64 f.body.kind)).setCell ⟨gd,p * 11+6,none⟩ (.string f.body.name)).setCell ⟨gd,p * 11+7,none⟩ (.string f.body.more)).setCell ⟨gd,p * 11+8,none⟩ (.int .i64 f.body.num)).setCell ⟨gd,p * 11+9,none⟩ (.int .i64 f.body.den)).setCell ⟨gd,p * 11+10,none⟩ (.slice sb f.body.subs.length ct)).ownsRow base 62 11 (.slice (some ⟨gd,0,none⟩) n cap) n (A++(declL (setPart 8 d f) an cn sb ct++R))):=by
  have h0:=zAi ho hb1;have h1:=zC h0 (by omega) (p * 11+5) (.int .i64 f.body.kind);rw [zCd A (declL d an cn sa cs) R _ 5 _ (by omega) (by simp [declL])] at h1;have h2:=zC h1 (by omega) (p * 11+6) (.string f.body.name);rw [zCd A ((declL d an cn sa cs).set 5 (.int .i64 f.body.kind)) R _ 6 _ (by omega) (by simp [declL])] at h2;have h3:=zC h2 (by omega) (p * 11+7) (.string f.body.more);rw [zCd A (((declL d an cn sa cs).set 5 (.int .i64 f.body.kind)).set 6 (.string f.body.name)) R _ 7 _ (by omega) (by simp [declL])] at h3
  have h4:=zC h3 (by omega) (p * 11+8) (.int .i64 f.body.num);rw [zCd A ((((declL d an cn sa cs).set 5 (.int .i64 f.body.kind)).set 6 (.string f.body.name)).set 7 (.string f.body.more)) R _ 8 _ (by omega) (by simp [declL])] at h4;have h5:=zC h4 (by omega) (p * 11+9) (.int .i64 f.body.den);rw [zCd A (((((declL d an cn sa cs).set 5 (.int .i64 f.body.kind)).set 6 (.string f.body.name)).set 7 (.string f.body.more)).set 8 (.int .i64 f.body.num)) R _ 9 _ (by omega) (by simp [declL])] at h5
  have h6:=zC h5 (by omega) (p * 11+10) (.slice sb f.body.subs.length ct);rw [zCd A ((((((declL d an cn sa cs).set 5 (.int .i64 f.body.kind)).set 6 (.string f.body.name)).set 7 (.string f.body.more)).set 8 (.int .i64 f.body.num)).set 9 (.int .i64 f.body.den)) R _ 10 _ (by omega) (by simp [declL])] at h6;exact h6
 have HM:Hid (Mod [gd] w (((((((w1.setCell ⟨gd,p * 11+5,none⟩ (.int .i64 f.body.kind)).setCell ⟨gd,p * 11+6,none⟩ (.string f.body.name)).setCell ⟨gd,p * 11+7,none⟩ (.string f.body.more)).setCell ⟨gd,p * 11+8,none⟩ (.int .i64 f.body.num)).setCell ⟨gd,p * 11+9,none⟩ (.int .i64 f.body.den)).setCell ⟨gd,p * 11+10,none⟩ (.slice sb f.body.subs.length ct)))):=(((((((Mod.mono (X:=[]) (Mod.of hb1) (fun k hk=>by cases hk)).setCell (p:=⟨gd,p * 11+5,none⟩) (List.mem_singleton.2 rfl) _).setCell (p:=⟨gd,p * 11+6,none⟩) (List.mem_singleton.2 rfl) _).setCell (p:=⟨gd,p * 11+7,none⟩) (List.mem_singleton.2 rfl) _).setCell (p:=⟨gd,p * 11+8,none⟩) (List.mem_singleton.2 rfl) _).setCell (p:=⟨gd,p * 11+9,none⟩) (List.mem_singleton.2 rfl) _).setCell (p:=⟨gd,p * 11+10,none⟩) (List.mem_singleton.2 rfl) _)
 obtain ⟨B,hB⟩:∃B,B=w.heap.size:=⟨_,rfl⟩;have hbox:CBox w1 B 62 (dA f bn cm sb ct):=by rw [hw1,hB];exact CBox.new _ _ _
 obtain ⟨-,-,-,-,-,b5,b6,b7,b8,b9,b10,bl⟩:=zBj hbox;have d5:=(hb1.cell (p:=⟨gd,_,none⟩) hgl).trans c5;have g5:=(hb1.frozen (p:=⟨gd,_,none⟩) hgl).trans f5;have d6:=(hb1.cell (p:=⟨gd,_,none⟩) hgl).trans c6;have g6:=(hb1.frozen (p:=⟨gd,_,none⟩) hgl).trans f6;have d7:=(hb1.cell (p:=⟨gd,_,none⟩) hgl).trans c7;have g7:=(hb1.frozen (p:=⟨gd,_,none⟩) hgl).trans f7;have d8:=(hb1.cell (p:=⟨gd,_,none⟩) hgl).trans c8;have g8:=(hb1.frozen (p:=⟨gd,_,none⟩) hgl).trans f8;have d9:=(hb1.cell (p:=⟨gd,_,none⟩) hgl).trans c9
 have g9:=(hb1.frozen (p:=⟨gd,_,none⟩) hgl).trans f9;have d10:=(hb1.cell (p:=⟨gd,_,none⟩) hgl).trans c10;have g10:=(hb1.frozen (p:=⟨gd,_,none⟩) hgl).trans f10;have gl:=Nat.lt_of_lt_of_le hgl hb1.size;clear ho hc hgf hb1 hbox c5 f5 c6 f6 c7 f7 c8 f8 c9 f9 c10 f10;unfold declV
 go_enter Tryz.func80,Tryz.ntmps80
 go_upto_region 1 with (fail)
 rw [←hw1,←hB];clear hw1 hB;go_wp2
 go_end0
 exact ⟨rfl,HO.o,HM.o⟩
theorem zZv (base gd cap n p:Nat) (d f:ODecl) (an:Option Addr) (cn:Nat) (sa:Option Addr) (cs:Nat) (bn:Option Addr) (cm:Nat) (sb:Option Addr) (ct:Nat) (A R:List Value) (w:World) (ho:w.ownsRow base 62 11 (.slice (some ⟨gd,0,none⟩) n cap) n (A++(declL d an cn sa cs++R))) (hp:p<n) (hA:A.length=p * 11) :
  Calls Tryz.prog 81 #[.pointer (some ⟨gd,p * 11,none⟩),declV f bn cm sb ct] w fun r w'=>r=.returned (.tuple #[])∧w'.ownsRow base 62 11 (.slice (some ⟨gd,0,none⟩) n cap) n (A++(declL (setPart 9 d f) an cn sa cs++R))∧Mod [gd] w w':=by
 obtain ⟨g',cur,e1,hc,hgB,hgl,hgf,_,_,_⟩:=zCk ho (by omega)
 injection e1 with e1
 injection e1 with e1
 subst e1;have c1:=hc (p * 11+1) _ (zCs A (declL d an cn sa cs) R _ 1 (.int .i64 d.kind) (by omega) rfl);have f1:=hgf (p * 11+1);have c2:=hc (p * 11+2) _ (zCs A (declL d an cn sa cs) R _ 2 (.bool d.pub) (by omega) rfl);have f2:=hgf (p * 11+2);have c4:=hc (p * 11+4) _ (zCs A (declL d an cn sa cs) R _ 4 (.bool d.doubt) (by omega) rfl);have f4:=hgf (p * 11+4);obtain ⟨w1,hw1⟩:∃w1,w1=w.alloc (.cells (dA f bn cm sb ct) 62):=⟨_,rfl⟩;have hb1:Bw w w1:=by rw [hw1];exact zAa _ _
 have HO:Hid ((((w1.setCell ⟨gd,p * 11+1,none⟩ (.int .i64 f.kind)).setCell ⟨gd,p * 11+2,none⟩ (.bool f.pub)).setCell ⟨gd,p * 11+4,none⟩ (.bool f.doubt)).ownsRow base 62 11 (.slice (some ⟨gd,0,none⟩) n cap) n (A++(declL (setPart 9 d f) an cn sa cs++R))):=by
  have h0:=zAi ho hb1;have h1:=zC h0 (by omega) (p * 11+1) (.int .i64 f.kind);rw [zCd A (declL d an cn sa cs) R _ 1 _ (by omega) (by simp [declL])] at h1;have h2:=zC h1 (by omega) (p * 11+2) (.bool f.pub);rw [zCd A ((declL d an cn sa cs).set 1 (.int .i64 f.kind)) R _ 2 _ (by omega) (by simp [declL])] at h2;have h3:=zC h2 (by omega) (p * 11+4) (.bool f.doubt);rw [zCd A (((declL d an cn sa cs).set 1 (.int .i64 f.kind)).set 2 (.bool f.pub)) R _ 4 _ (by omega) (by simp [declL])] at h3;exact h3
 have HM:Hid (Mod [gd] w ((((w1.setCell ⟨gd,p * 11+1,none⟩ (.int .i64 f.kind)).setCell ⟨gd,p * 11+2,none⟩ (.bool f.pub)).setCell ⟨gd,p * 11+4,none⟩ (.bool f.doubt)))):=((((Mod.mono (X:=[]) (Mod.of hb1) (fun k hk=>by cases hk)).setCell (p:=⟨gd,p * 11+1,none⟩) (List.mem_singleton.2 rfl) _).setCell (p:=⟨gd,p * 11+2,none⟩) (List.mem_singleton.2 rfl) _).setCell (p:=⟨gd,p * 11+4,none⟩) (List.mem_singleton.2 rfl) _);obtain ⟨B,hB⟩:∃B,B=w.heap.size:=⟨_,rfl⟩;have hbox:CBox w1 B 62 (dA f bn cm sb ct):=by rw [hw1,hB];exact CBox.new _ _ _
 have hbx:=CBox.below hbox (Mod.refl [] w1).drew.below;have b1:=hbx.cell (i:=1) (v:=.int .i64 f.kind) rfl;have b2:=hbx.cell (i:=2) (v:=.bool f.pub) rfl;have b4:=hbx.cell (i:=4) (v:=.bool f.doubt) rfl;have bl:=hbx.lt;have HBX:=lH hbox;have HGB:Hid (B≠gd):=by show _≠_;omega
 have ht:Bw w w1.drew:=zA hb1 (Mod.refl [] w1).drew.below;have k1:=(hb1.cell (p:=⟨gd,_,none⟩) hgl).trans c1;have l1:=(hb1.frozen (p:=⟨gd,_,none⟩) hgl).trans f1;have k2:=(hb1.cell (p:=⟨gd,_,none⟩) hgl).trans c2;have l2:=(hb1.frozen (p:=⟨gd,_,none⟩) hgl).trans f2;have k4:=(hb1.cell (p:=⟨gd,_,none⟩) hgl).trans c4;have l4:=(hb1.frozen (p:=⟨gd,_,none⟩) hgl).trans f4;have d1:=(ht.cell (p:=⟨gd,_,none⟩) hgl).trans c1;have g1:=(ht.frozen (p:=⟨gd,_,none⟩) hgl).trans f1;have d2:=(ht.cell (p:=⟨gd,_,none⟩) hgl).trans c2
 have g2:=(ht.frozen (p:=⟨gd,_,none⟩) hgl).trans f2;have d4:=(ht.cell (p:=⟨gd,_,none⟩) hgl).trans c4;have g4:=(ht.frozen (p:=⟨gd,_,none⟩) hgl).trans f4;have gl:=Nat.lt_of_lt_of_le hgl ht.size;have gl1:=Nat.lt_of_lt_of_le hgl hb1.size;have HO2:Hid (((((w1.drew.setCell ⟨gd,p * 11+1,none⟩ (.int .i64 f.kind)).setCell ⟨gd,p * 11+2,none⟩ (.bool f.pub)).setCell ⟨gd,p * 11+4,none⟩ (.bool f.doubt))).ownsRow base 62 11 (.slice (some ⟨gd,0,none⟩) n cap) n (A++(declL (setPart 9 d f) an cn sa cs++R))):=zAi HO.o (Mod.refl [] _).drew.below
 have HM2:Hid (Mod [gd] w ((((w1.drew.setCell ⟨gd,p * 11+1,none⟩ (.int .i64 f.kind)).setCell ⟨gd,p * 11+2,none⟩ (.bool f.pub)).setCell ⟨gd,p * 11+4,none⟩ (.bool f.doubt)))):=HM.o.drew;clear ho hc hgf hb1 hbox hbx ht HO HM c1 f1 c2 f2 c4 f4;unfold declV
 go_enter Tryz.func81,Tryz.ntmps81
 go_upto_region 1 with (fail)
 rw [←hw1,←hB];clear hw1 hB
 have SB:∀W:World,W.heap[B]?=w1.heap[B]?→(W.cell? ⟨B,1,none⟩=some (.int .i64 f.kind)∧W.cell? ⟨B,2,none⟩=some (.bool f.pub)∧W.cell? ⟨B,4,none⟩=some (.bool f.doubt)):=fun W h=>by
  have q:=h.trans HBX.o;exact ⟨CBox.cell (w:=W) q (i:=1) (v:=.int .i64 f.kind) rfl,CBox.cell (w:=W) q (i:=2) (v:=.bool f.pub) rfl,CBox.cell (w:=W) q (i:=4) (v:=.bool f.doubt) rfl⟩
 have HSB:=lH SB;clear SB;refine wp_region_noPanic (zBt (fun W:World=>W.cell? ⟨B,1,none⟩=some (.int .i64 f.kind)∧W.cell? ⟨B,2,none⟩=some (.bool f.pub)∧W.cell? ⟨B,4,none⟩=some (.bool f.doubt)) [true,true,true,true,true,true,true,true,true,true,true,false,true,true,false,true,true,false] zAv (by kernel_rfl) (fun _ _ _ _ _ h=>h) (HSB.o _ rfl) (fun _=>?_))
 iterate 11 (first|(refine zAl (by rfl) ?_;(try simp only [Act.put,List.setIfInBounds_toArray,List.set_cons_zero,List.set_cons_succ]))|(refine zAn (v:=?_) (by rfl) ?_ ?_;rotate_left;(focus (intro wq hSw;(try dsimp only at hSw);go_simp;(try with_reducible rfl)));(try simp only [Act.put,List.setIfInBounds_toArray,List.set_cons_zero,List.set_cons_succ])))
 (refine zCr (by rfl) (fun K hK=>?_);go_simp)
 refine hK.out _ _ (HSB.o _ (World.heap_setCell_other _ _ _ HGB.o)) (fun _=>?_);clear hK K
 (try simp only [Act.put,List.setIfInBounds_toArray,List.set_cons_zero,List.set_cons_succ])
 iterate 2 (first|(refine zAl (by rfl) ?_;(try simp only [Act.put,List.setIfInBounds_toArray,List.set_cons_zero,List.set_cons_succ]))|(refine zAn (v:=?_) (by rfl) ?_ ?_;rotate_left;(focus (intro wq hSw;(try dsimp only at hSw);go_simp;(try with_reducible rfl)));(try simp only [Act.put,List.setIfInBounds_toArray,List.set_cons_zero,List.set_cons_succ])))
 (refine zCr (by rfl) (fun K hK=>?_);go_simp)
 refine hK.out _ _ (HSB.o _ ((World.heap_setCell_other _ _ _ HGB.o).trans (World.heap_setCell_other _ _ _ HGB.o))) (fun _=>?_);clear hK K
 (try simp only [Act.put,List.setIfInBounds_toArray,List.set_cons_zero,List.set_cons_succ])
 iterate 2 (first|(refine zAl (by rfl) ?_;(try simp only [Act.put,List.setIfInBounds_toArray,List.set_cons_zero,List.set_cons_succ]))|(refine zAn (v:=?_) (by rfl) ?_ ?_;rotate_left;(focus (intro wq hSw;(try dsimp only at hSw);go_simp;(try with_reducible rfl)));(try simp only [Act.put,List.setIfInBounds_toArray,List.set_cons_zero,List.set_cons_succ])))
 (refine zCr (by rfl) (fun K hK=>?_);go_simp)
 refine hK.out _ _ (HSB.o _ ((World.heap_setCell_other _ _ _ HGB.o).trans ((World.heap_setCell_other _ _ _ HGB.o).trans (World.heap_setCell_other _ _ _ HGB.o)))) (fun _=>?_);clear hK K
 (try simp only [Act.put,List.setIfInBounds_toArray,List.set_cons_zero,List.set_cons_succ])
 refine zCc ?_;refine NoPanic.normal ?_;go_wp2
 go_end0
 exact ⟨rfl,HO2.o,HM2.o⟩
def Setter (k:Int) (F:FuncId):Prop:=
  ∀(base gd cap n p:Nat) (d f:ODecl) (an:Option Addr) (cn:Nat) (sa:Option Addr) (cs:Nat) (bn:Option Addr) (cm:Nat) (sb:Option Addr) (ct:Nat) (A R:List Value) (w0 w:World),w.ownsRow base 62 11 (.slice (some ⟨gd,0,none⟩) n cap) n (A++(declL d an cn sa cs++R))→p<n→A.length=p * 11→DeclIn w0 d an cn sa cs→DeclIn w0 f bn cm sb ct →
    Calls Tryz.prog F #[.pointer (some ⟨gd,p * 11,none⟩),declV f bn cm sb ct] w fun r w'=>r=.returned (.tuple #[])∧(∃vs,w'.ownsRow base 62 11 (.slice (some ⟨gd,0,none⟩) n cap) n (A++(vs++R))∧ReadsL w0 [] (declT (setPart k d f)) vs)∧Mod [gd] w w'
theorem yCa:Setter 7 79:=fun base gd cap n p d f an cn sa cs bn cm sb ct A R _ w ho hp hA hd hf=>
 (zZt base gd cap n p d f an cn sa cs bn cm sb ct A R w ho hp hA).mono fun _ _ ⟨h1,h2,h3⟩=>⟨h1,⟨_,h2,zBe hf.names hd.subs⟩,h3⟩
theorem yCb:Setter 8 80:=fun base gd cap n p d f an cn sa cs bn cm sb ct A R _ w ho hp hA hd hf=>
 (zZu base gd cap n p d f an cn sa cs bn cm sb ct A R w ho hp hA).mono fun _ _ ⟨h1,h2,h3⟩=>⟨h1,⟨_,h2,zBe hd.names hf.subs⟩,h3⟩
theorem yCc:Setter 9 81:=fun base gd cap n p d f an cn sa cs bn cm sb ct A R _ w ho hp hA hd _=>
 (zZv base gd cap n p d f an cn sa cs bn cm sb ct A R w ho hp hA).mono fun _ _ ⟨h1,h2,h3⟩=>⟨h1,⟨_,h2,zBe hd.names hd.subs⟩,h3⟩
theorem zZw {w:World} {l:List ODecl} {xs:List Value} (h:ReadsL w [] (l.flatMap declT) xs) {p:Nat} {y:ODecl} (hy:l[p]?=some y) :
    ∃(A R:List Value) (an:Option Addr) (cn:Nat) (sa:Option Addr) (cs:Nat),xs=A++(declL y an cn sa cs++R)∧A.length=p * 11∧DeclIn w y an cn sa cs∧∀(d:ODecl) (vs:List Value),ReadsL w [] (declT d) vs→ReadsL w [] ((l.set p d).flatMap declT) (A++(vs++R)):=by
  obtain ⟨hp,rfl⟩:=List.getElem?_eq_some_iff.1 hy
  have hl:l=l.take p++l[p]::l.drop (p+1):=by rw [←List.drop_eq_getElem_cons hp,List.take_append_drop]
  generalize l[p]=y at *
  have hP:(l.take p).length=p:=by rw [List.length_take];omega
  generalize l.take p=P at *
  generalize l.drop (p+1)=Q at *
  subst hl
  have hf:(P.flatMap declT).length=p * 11:=by rw [zGf,hP]
  rw [List.flatMap_append,List.flatMap_cons] at h
  have h1:=h.take (p * 11)
  have h2:=h.drop (p * 11)
  rw [List.take_left' hf] at h1
  rw [List.drop_left' hf] at h2
  have h3:=h2.take 11
  have h4:=h2.drop 11
  rw [List.take_left' (zBw y)] at h3
  rw [List.drop_left' (zBw y)] at h4
  obtain ⟨an,cn,sa,cs,e,n1,n2,HN,s1,s2,HS⟩:=zLb h3
  refine ⟨xs.take (p * 11),(xs.drop (p * 11)).drop 11,an,cn,sa,cs,?_,by rw [h1.len,hf],⟨HN,HS,n1,n2,s1,s2⟩,fun d vs hv=>?_⟩
  · rw [←e,List.take_append_drop,List.take_append_drop]
  · rw [zOn hP,List.flatMap_append,List.flatMap_cons]
    exact ReadsL.append (ReadsL.append h4 hv) h1
theorem zTs {k:Int} {y:ODecl} {n:Nat} (h:y.names.length≤n):(partD k y).names.length≤n:=by
 unfold partD;repeat' split
 all_goals first|exact h|exact Nat.zero_le _
theorem zTt {k:Int} {y:ODecl} {n:Nat} (h:nodesN y.body≤n) (h1:1≤n:=by decide):nodesN (partD k y).body≤n:=by
 unfold partD;repeat' split
 all_goals first|exact h|exact h1
theorem zHc {w0 w W W':World} {g o p:Nat} {x:MV} {e:OEdit} {f:ODecl} {xs ys:List Value} (hE:inMod x.m e=(⟨x.m.label,x.m.uses,x.m.decls.set p f⟩,0)) (hmr:MR w0 w x) (ho:W'.ownsRow w0.heap.size 62 11 x.d x.m.decls.length ys) (hr:ReadsL w0 [] ((x.m.decls.set p f).flatMap declT) ys)
    (hb:Below w.heap.size w W) (hm:Mod x.d.ownBlock.toList W W') (hxo:w.ownsRow w0.heap.size 62 11 x.d x.m.decls.length xs):EffPost w0 w g o x e (.returned (.int .i64 0)) W':=by
  refine ⟨zAd (k:=.i64) (a:=0) (by rw [hE]),fun c=>absurd (by rw [hE]) c,fun _=>⟨⟨⟨x.m.label,x.m.uses,x.m.decls.set p f⟩,x.u,x.d⟩,W',by rw [hE],.inl ⟨rfl,rfl,rfl⟩,(Mod.mono (X:=[]) (Mod.of hb) (fun k hk=>by cases hk)).trans (hm.mono (fun k hk=>List.mem_append_right _ hk)),⟨?_,?_⟩,.inl rfl,.inl rfl⟩⟩
  · have a1:=(hmr.below hb).uses
    exact zCg a1 hm (fun b hb' c=>zGe (by decide) a1 (zAi hxo hb) b hb' (by simpa using c))
  · exact ⟨ys,by show W'.ownsRow _ _ _ _ (x.m.decls.set p f).length _;rw [List.length_set];exact ho,hr⟩
theorem zQl (w0 w:World) (g o sS:Nat) (sv:Value) (x:MV) (e:OEdit) (ao:Option Addr) (co:Nat) (af:Option Addr) (cf:Nat) (h:EffIn w0 w g o x e ao co af cf) (hd:EffD x e) (hk6:6≤e.kind) (ho1:e.old.length=1) (hf1:7≤e.kind→e.fresh.length=1)
  (hsS:sS<w.heap.size) (hsv:w.cell? ⟨sS,0,none⟩=some sv) (hset:7≤e.kind→∃F,(F=79∨F=80∨F=81)∧sv=.func (.func F) #[] #[]∧Setter e.kind F) (hsd:∀d∈x.m.decls,d.names.length≤1000000∧nodesN d.body≤1000000) :
  Calls Tryz.prog 130 #[.pointer (some ⟨g,o,none⟩),editV e ao co af cf,.pointer (some ⟨sS,0,none⟩)] w fun r w'=>EffPost w0 w g o x e r w':=by
 obtain ⟨d,hde⟩:∃d,e.old[0]?=some d:=⟨_,List.getElem?_eq_getElem (show 0<e.old.length by omega)⟩;have hdd:dAt e.old 0=d:=zDk hde;obtain ⟨bo,oo,an,cn,sa,cs,rfl,hbl,hcell,-,hdin⟩:=zHb h.ed.old hde;obtain ⟨B,hB⟩:∃B,B=w.heap.size:=⟨_,rfl⟩;obtain ⟨W0,hW0⟩:∃W0,W0=(w.alloc (.cells #[.int .i64 e.kind,.string e.pack,.string e.text,.slice (some ⟨bo,oo,none⟩) e.old.length co,.slice af e.fresh.length cf] 39)).alloc (.cells (dA d an cn sa cs) 62):=⟨_,rfl⟩;have hb0:Bw w W0:=by rw [hW0];exact zA (zAa _ _) (zAa _ _)
 have hbox:CBox W0 B 39 #[.int .i64 e.kind,.string e.pack,.string e.text,.slice (some ⟨bo,oo,none⟩) e.old.length co,.slice af e.fresh.length cf]:=by rw [hW0,hB];exact CBox.alloc (CBox.new _ _ _) _
 have hbxD:CBox W0 (B+1) 62 (dA d an cn sa cs):=by
  rw [hW0,hB];have:=CBox.new (w.alloc (.cells #[.int .i64 e.kind,.string e.pack,.string e.text,.slice (some ⟨bo,oo,none⟩) e.old.length co,.slice af e.fresh.length cf] 39)) 62 (dA d an cn sa cs);rwa [World.size_alloc] at this
 obtain ⟨D,hD⟩:∃D,D=B+1:=⟨_,rfl⟩;rw [←hD] at hbxD;have hwb:Bw w0 W0:=zA h.old hb0;have HM:=lH h.at_;have HMR:=lH h.mr;have HX:=lH hbox;have HXD:=lH hbxD;have SW:Hid (∀W:World,Bw W0 W→(W.cell? ⟨g,o+2,none⟩=some x.d∧W.cell? ⟨D,0,none⟩=some (.int .i64 d.id)∧g<W.heap.size∧D<W.heap.size)):=fun W hW=>⟨((HM.o.below hb0).below hW).c2,(HXD.o.below hW).cell (i:=0) (v:=.int .i64 d.id) rfl,((HM.o.below hb0).below hW).lt,(HXD.o.below hW).lt⟩;obtain ⟨xs,hxo,hxr⟩:=h.mr.decls;obtain ⟨ad,cd,hu⟩:=zAh hxo
 have HXO:=lH hxo;have HXR:=lH hxr;have HB0:=lH hb0;have HWB:=lH hwb;have HS:=lH h.srt;have HUL:=lH h.dl;have HK6:=lH hk6;have HH:=lH h;have HDD:=lH hd;have HOD:=lH hdd;have HDI:=lH hdin;have HF1:=lH hf1;have HSV:=lH hsv;have HSS:=lH hsS;have HSET:=lH hset;have HSD:=lH hsd;have hf0:(0:Int)<(e.old.length:Int):=by omega
 have hf00:0<e.old.length:=by omega
 have HRO:Hid (inR d.id):=by have:=hd.ro;rw [hdd] at this;exact this
 have HB:Hid (B=w.heap.size):=hB;have HDB:Hid (D=B+1):=hD;have hwo:=h.old;have hbl2:bo<w.heap.size:=Nat.lt_of_lt_of_le hbl hwo.size;have z0:w.cell? ⟨bo,oo,none⟩=some (.int .i64 d.id):=(hwo.cell (p:=⟨bo,_,none⟩) hbl).trans (hcell 0 _ rfl);have z1:w.cell? ⟨bo,oo+1,none⟩=some (.int .i64 d.kind):=(hwo.cell (p:=⟨bo,_,none⟩) hbl).trans (hcell 1 _ rfl);have z2:w.cell? ⟨bo,oo+2,none⟩=some (.bool d.pub):=(hwo.cell (p:=⟨bo,_,none⟩) hbl).trans (hcell 2 _ rfl)
 have z3:w.cell? ⟨bo,oo+3,none⟩=some (.slice an d.names.length cn):=(hwo.cell (p:=⟨bo,_,none⟩) hbl).trans (hcell 3 _ rfl);have z4:w.cell? ⟨bo,oo+4,none⟩=some (.bool d.doubt):=(hwo.cell (p:=⟨bo,_,none⟩) hbl).trans (hcell 4 _ rfl);have z5:w.cell? ⟨bo,oo+5,none⟩=some (.int .i64 d.body.kind):=(hwo.cell (p:=⟨bo,_,none⟩) hbl).trans (hcell 5 _ rfl);have z6:w.cell? ⟨bo,oo+6,none⟩=some (.string d.body.name):=(hwo.cell (p:=⟨bo,_,none⟩) hbl).trans (hcell 6 _ rfl)
 have z7:w.cell? ⟨bo,oo+7,none⟩=some (.string d.body.more):=(hwo.cell (p:=⟨bo,_,none⟩) hbl).trans (hcell 7 _ rfl);have z8:w.cell? ⟨bo,oo+8,none⟩=some (.int .i64 d.body.num):=(hwo.cell (p:=⟨bo,_,none⟩) hbl).trans (hcell 8 _ rfl);have z9:w.cell? ⟨bo,oo+9,none⟩=some (.int .i64 d.body.den):=(hwo.cell (p:=⟨bo,_,none⟩) hbl).trans (hcell 9 _ rfl);have z10:w.cell? ⟨bo,oo+10,none⟩=some (.slice sa d.body.subs.length cs):=(hwo.cell (p:=⟨bo,_,none⟩) hbl).trans (hcell 10 _ rfl)
 clear hbox hbxD hk6 hb0 h hcell hxo hxr hde hd hwb hdd hdin ho1 hf1 hsv hsS hset hsd hwo hbl;unfold editV
 go_enter Tryz.func130,Tryz.ntmps130
 go_upto_region 2 with (fail)
 have hsz1:w.heap.size+1=D:=by rw [hD,hB]
 rw [←hW0,hsz1,←hB];clear hW0 hB hD hsz1 z0 z1 z2 z3 z4 z5 z6 z7 z8 z9 z10;have hb1:Bw W0 W0.drew:=(Mod.refl [] W0).drew.below;refine wp_region_noPanic (zBt (fun W:World=>W.cell? ⟨g,o+2,none⟩=some x.d∧W.cell? ⟨D,0,none⟩=some (.int .i64 d.id)∧g<W.heap.size∧D<W.heap.size) [true,true,true,true,true,true,false,true,true,true,true,true] zAv (by kernel_rfl) (fun _ _ _ _ _ h=>h) (SW.o _ hb1) (fun _=>?_))
 iterate 6 (first|(refine zAl (by rfl) ?_;(try simp only [Act.put,List.setIfInBounds_toArray,List.set_cons_zero,List.set_cons_succ]))|(refine zAn (v:=?_) (by rfl) ?_ ?_;rotate_left;(focus (intro wq hSw;(try dsimp only at hSw);go_simp;(try with_reducible rfl)));(try simp only [Act.put,List.setIfInBounds_toArray,List.set_cons_zero,List.set_cons_succ])))
 (refine zCr (by rfl) (fun K hK=>?_);go_simp)
 have hrW:Reads W0.drew [] (declsT x.m.decls) (.slice ad x.m.decls.length cd):=by rw [←hu];exact (HMR.o.below (zA HB0.o hb1)).reads (zA HWB.o hb1)
 refine (zHv x.m.decls ad cd d.id W0.drew hrW HS.o.decls HDD.o.rng HRO.o (by have:=HUL.o;omega)).mono ?_;rintro r W1 ⟨rfl,hb2⟩;clear hrW;have hb2:=zA hb1 hb2;refine hK.out _ _ (SW.o _ hb2) (fun _=>?_);clear hK K
 (try simp only [Act.put,List.setIfInBounds_toArray,List.set_cons_zero,List.set_cons_succ])
 rcases zBc yBh HS.o.decls d.id with ⟨y,H⟩|H
 rotate_left
 ·have HE:Hid (inMod x.m e=(x.m,8)):=by show _=_;unfold inMod;rw [if_neg (by have:=HK6.o;omega),if_neg (by have:=HK6.o;omega),if_neg (by have:=HK6.o;omega),HOD.o,H.look]
  rw [H.look];simp only [Option.isSome_none]
  generalize plc ltI ODecl.id x.m.decls d.id=p at *
  iterate 5 (first|(refine zAl (by rfl) ?_;(try simp only [Act.put,List.setIfInBounds_toArray,List.set_cons_zero,List.set_cons_succ]))|(refine zAn (v:=?_) (by rfl) ?_ ?_;rotate_left;(focus (intro wq hSw;(try dsimp only at hSw);go_simp;(try with_reducible rfl)));(try simp only [Act.put,List.setIfInBounds_toArray,List.set_cons_zero,List.set_cons_succ])))
  refine zCc ?_;refine NoPanic.normal ?_;go_wp2;go_ret;exact ⟨zAd (k:=.i64) (a:=8) (by rw [HE.o]),fun _=>zA HB0.o hb2,fun c=>by rw [HE.o] at c;cases c⟩
 have HE:Hid (inMod x.m e=if sameD (partD e.kind y) d then (if e.kind=6 then (⟨x.m.label,x.m.uses,delAt x.m.decls (plc ltI ODecl.id x.m.decls d.id)⟩,0) else (⟨x.m.label,x.m.uses,x.m.decls.set (plc ltI ODecl.id x.m.decls d.id) (setPart e.kind y (dAt e.fresh 0))⟩,0)) else (x.m,17)):=by
  show _=_;unfold inMod;rw [if_neg (by have:=HK6.o;omega),if_neg (by have:=HK6.o;omega),if_neg (by have:=HK6.o;omega),HOD.o,H.look]
 have hpl:=H.le;have hpy:=H.elt;rw [H.look];simp only [Option.isSome_some]
 clear H;generalize plc ltI ODecl.id x.m.decls d.id=p at *;have hgl0:p<x.m.decls.length:=hpl
 iterate 5 (first|(refine zAl (by rfl) ?_;(try simp only [Act.put,List.setIfInBounds_toArray,List.set_cons_zero,List.set_cons_succ]))|(refine zAn (v:=?_) (by rfl) ?_ ?_;rotate_left;(focus (intro wq hSw;(try dsimp only at hSw);go_simp;(try with_reducible rfl)));(try simp only [Act.put,List.setIfInBounds_toArray,List.set_cons_zero,List.set_cons_succ])))
 refine zCc ?_;refine NoPanic.normal ?_;obtain ⟨A,R,yn,yc,ys,yk,rfl,hA,hyi,hrs⟩:=zZw HXR.o hpy;obtain ⟨gd,gcur,hgd,hgcell,hgB,hgl,hgf,hgn,hgn2,hgh⟩:=zCk (by rw [hu] at HXO;exact HXO.o) (by omega:0<x.m.decls.length);subst hgd;have HY:=lH hyi;have HRS:=lH hrs;have HA:=lH hA;have HGL:=lH hgl;have HGC:Hid (∀j u,(declL y yn yc ys yk)[j]?=some u→w.cell? ⟨gd,p * 11+j,none⟩=some u):=fun j u hj=>hgcell _ _ (zCs A (declL y yn yc ys yk) R _ j u (by omega) hj);have hymem:y∈x.m.decls:=List.mem_of_getElem? hpy
 have HYS:=lH (HSD.o y hymem);clear hyi hrs hA hgcell hgf hgh hgl hgB hpy hymem
 have S5W:Hid (∀W:World,Bw W0 W→(W.cell? ⟨B,0,none⟩=some (.int .i64 e.kind)∧W.cell? ⟨g,o+2,none⟩=some x.d∧W.cell? ⟨gd,p * 11,none⟩=some (.int .i64 y.id)∧W.cell? ⟨gd,p * 11+1,none⟩=some (.int .i64 y.kind)∧W.cell? ⟨gd,p * 11+2,none⟩=some (.bool y.pub)∧W.cell? ⟨gd,p * 11+3,none⟩=some (.slice yn y.names.length yc)∧W.cell? ⟨gd,p * 11+4,none⟩=some (.bool y.doubt)∧W.cell? ⟨gd,p * 11+5,none⟩=some (.int .i64 y.body.kind)∧W.cell? ⟨gd,p * 11+6,none⟩=some (.string y.body.name)∧W.cell? ⟨gd,p * 11+7,none⟩=some (.string y.body.more)∧W.cell? ⟨gd,p * 11+8,none⟩=some (.int .i64 y.body.num)∧W.cell? ⟨gd,p * 11+9,none⟩=some (.int .i64 y.body.den)∧W.cell? ⟨gd,p * 11+10,none⟩=some (.slice ys y.body.subs.length yk)∧W.cell? ⟨D,0,none⟩=some (.int .i64 d.id)∧W.cell? ⟨D,1,none⟩=some (.int .i64 d.kind)∧W.cell? ⟨D,2,none⟩=some (.bool d.pub)∧W.cell? ⟨D,3,none⟩=some (.slice an d.names.length cn)∧W.cell? ⟨D,4,none⟩=some (.bool d.doubt)∧W.cell? ⟨D,5,none⟩=some (.int .i64 d.body.kind)∧W.cell? ⟨D,6,none⟩=some (.string d.body.name)∧W.cell? ⟨D,7,none⟩=some (.string d.body.more)∧W.cell? ⟨D,8,none⟩=some (.int .i64 d.body.num)∧W.cell? ⟨D,9,none⟩=some (.int .i64 d.body.den)∧W.cell? ⟨D,10,none⟩=some (.slice sa d.body.subs.length cs)∧g<W.heap.size∧B<W.heap.size∧D<W.heap.size∧gd<W.heap.size)):=fun W hW=>⟨(HX.o.below hW).cell (i:=0) (v:=.int .i64 e.kind) rfl,((HM.o.below HB0.o).below hW).c2,((zA HB0.o hW).cell (p:=⟨gd,_,none⟩) HGL.o).trans (HGC.o 0 _ rfl),((zA HB0.o hW).cell (p:=⟨gd,_,none⟩) HGL.o).trans (HGC.o 1 _ rfl),((zA HB0.o hW).cell (p:=⟨gd,_,none⟩) HGL.o).trans (HGC.o 2 _ rfl),((zA HB0.o hW).cell (p:=⟨gd,_,none⟩) HGL.o).trans (HGC.o 3 _ rfl),((zA HB0.o hW).cell (p:=⟨gd,_,none⟩) HGL.o).trans (HGC.o 4 _ rfl),((zA HB0.o hW).cell (p:=⟨gd,_,none⟩) HGL.o).trans (HGC.o 5 _ rfl),((zA HB0.o hW).cell (p:=⟨gd,_,none⟩) HGL.o).trans (HGC.o 6 _ rfl),((zA HB0.o hW).cell (p:=⟨gd,_,none⟩) HGL.o).trans (HGC.o 7 _ rfl),((zA HB0.o hW).cell (p:=⟨gd,_,none⟩) HGL.o).trans (HGC.o 8 _ rfl),((zA HB0.o hW).cell (p:=⟨gd,_,none⟩) HGL.o).trans (HGC.o 9 _ rfl),((zA HB0.o hW).cell (p:=⟨gd,_,none⟩) HGL.o).trans (HGC.o 10 _ rfl),(HXD.o.below hW).cell (i:=0) (v:=.int .i64 d.id) rfl,(HXD.o.below hW).cell (i:=1) (v:=.int .i64 d.kind) rfl,(HXD.o.below hW).cell (i:=2) (v:=.bool d.pub) rfl,(HXD.o.below hW).cell (i:=3) (v:=.slice an d.names.length cn) rfl,(HXD.o.below hW).cell (i:=4) (v:=.bool d.doubt) rfl,(HXD.o.below hW).cell (i:=5) (v:=.int .i64 d.body.kind) rfl,(HXD.o.below hW).cell (i:=6) (v:=.string d.body.name) rfl,(HXD.o.below hW).cell (i:=7) (v:=.string d.body.more) rfl,(HXD.o.below hW).cell (i:=8) (v:=.int .i64 d.body.num) rfl,(HXD.o.below hW).cell (i:=9) (v:=.int .i64 d.body.den) rfl,(HXD.o.below hW).cell (i:=10) (v:=.slice sa d.body.subs.length cs) rfl,((HM.o.below HB0.o).below hW).lt,(HX.o.below hW).lt,(HXD.o.below hW).lt,Nat.lt_of_lt_of_le HGL.o (zA HB0.o hW).size⟩
 have hpi:(p:Int)<(x.m.decls.length:Int):=by omega
 go_upto_region 5 with (fail)
 have hbd:Bw W0 W1.drew:=zA hb2 (Mod.refl [] W1).drew.below;have HMC:=lH (zDw e.kind y yn yc ys yk W1.drew (HY.o.below (zA HWB.o hbd)));unfold declV at HMC
 refine wp_region_noPanic (zAq (fun W:World=>W.cell? ⟨B,0,none⟩=some (.int .i64 e.kind)∧W.cell? ⟨g,o+2,none⟩=some x.d∧W.cell? ⟨gd,p * 11,none⟩=some (.int .i64 y.id)∧W.cell? ⟨gd,p * 11+1,none⟩=some (.int .i64 y.kind)∧W.cell? ⟨gd,p * 11+2,none⟩=some (.bool y.pub)∧W.cell? ⟨gd,p * 11+3,none⟩=some (.slice yn y.names.length yc)∧W.cell? ⟨gd,p * 11+4,none⟩=some (.bool y.doubt)∧W.cell? ⟨gd,p * 11+5,none⟩=some (.int .i64 y.body.kind)∧W.cell? ⟨gd,p * 11+6,none⟩=some (.string y.body.name)∧W.cell? ⟨gd,p * 11+7,none⟩=some (.string y.body.more)∧W.cell? ⟨gd,p * 11+8,none⟩=some (.int .i64 y.body.num)∧W.cell? ⟨gd,p * 11+9,none⟩=some (.int .i64 y.body.den)∧W.cell? ⟨gd,p * 11+10,none⟩=some (.slice ys y.body.subs.length yk)∧W.cell? ⟨D,0,none⟩=some (.int .i64 d.id)∧W.cell? ⟨D,1,none⟩=some (.int .i64 d.kind)∧W.cell? ⟨D,2,none⟩=some (.bool d.pub)∧W.cell? ⟨D,3,none⟩=some (.slice an d.names.length cn)∧W.cell? ⟨D,4,none⟩=some (.bool d.doubt)∧W.cell? ⟨D,5,none⟩=some (.int .i64 d.body.kind)∧W.cell? ⟨D,6,none⟩=some (.string d.body.name)∧W.cell? ⟨D,7,none⟩=some (.string d.body.more)∧W.cell? ⟨D,8,none⟩=some (.int .i64 d.body.num)∧W.cell? ⟨D,9,none⟩=some (.int .i64 d.body.den)∧W.cell? ⟨D,10,none⟩=some (.slice sa d.body.subs.length cs)∧g<W.heap.size∧B<W.heap.size∧D<W.heap.size∧gd<W.heap.size) 12 [(true,0),(true,1),(true,2),(true,3),(true,4),(true,5),(true,6),(true,7),(true,8),(true,10),(false,9),(false,11)] zAv (by kernel_rfl) (fun _ _ _ _ _ h=>h) (S5W.o _ hbd) ?_)
 iterate 10 (refine zAt (v:=?_) rfl (by rfl) ?_ ?_;rotate_left;(focus (intro wq hSw;(try dsimp only at hSw);go_simp;(try rw [if_neg (by first|omega|(simp;omega))]);(try with_reducible rfl)));(try simp only [gA,gB,gC,Act.put,gD,gE,gF]))
 (refine zAu rfl (by rfl) (fun K hK=>?_);go_simp)
 refine HMC.o.mono ?_;rintro r W2 ⟨pn,pc,ps,pk,rfl,hpi2,hb3⟩;have hb3:=zA hbd hb3;have HEC:=lH (zCi (partD e.kind y) d pn pc ps pk an cn sa cs W2 hpi2 (HDI.o.below (zA HWB.o hb3)) (zTs HYS.o.1) (zTt HYS.o.2));generalize hsb:sameD (partD e.kind y) d=sb at *;have HSB:=lH hsb;clear hsb;refine hK.out _ _ (S5W.o _ hb3) ?_;clear hK K HMC
 (try simp only [gA,gB,gC,Act.put,gD,gE,gF])
 (refine zAu rfl (by rfl) (fun K hK=>?_);go_simp)
 unfold declV at HEC;refine HEC.o.mono ?_;rintro r W3 ⟨rfl,hb4⟩;have hb4:=zA hb3 hb4;refine hK.out _ _ (S5W.o _ hb4) ?_;clear hK K HEC hpi2
 (try simp only [gA,gB,gC,Act.put,gD,gE,gF])
 refine zBh ?_;have HB4:=lH hb4
 cases sb with
 | false=>
  have HE2:Hid (inMod x.m e=(x.m,17)):=by show _=_;rw [HE.o];rfl
  clear hb4 hb3 hbd hb2 hb1;go_wp2;refine NoPanic.normal ?_;go_wp2;go_ret;exact ⟨zAd (k:=.i64) (a:=17) (by rw [HE2.o]),fun _=>zA HB0.o HB4.o,fun c=>by rw [HE2.o] at c;cases c⟩
 | true=>
  have eK:=(S5W.o _ hb4).1;have l0:=(HX.o.below hb4).lt;have hbw:Bw w W3:=zA HB0.o hb4;have HBW:=lH hbw;clear hb4 hb3 hbd hb2 hb1
  by_cases hk:e.kind=6
  ·have HE2:Hid (inMod x.m e=(⟨x.m.label,x.m.uses,delAt x.m.decls p⟩,0)):=by show _=_;rw [HE.o,if_pos rfl,if_pos hk]
   have e0:W3.cell? ⟨B,0,none⟩=some (.int .i64 6):=by rw [eK,hk]
   have HI:=lH (zZn w0.heap.size x.m.decls.length p x.d (A++(declL y yn yc ys yk++R)) W3 (zAi HXO.o hbw) hgl0 (by have:=HUL.o;omega) (zD HXR.o));have q0:=((HM.o.below HB0.o).below HB4.o).c2;have HIn:IntKind.i64.wrap ((p:Int)+1)=(p:Int)+1:=by rw [IntKind.wrap_i64];have:=HUL.o;omega
   have ql:=((HM.o.below HB0.o).below HB4.o).lt;clear hk hbw HE eK;go_wp2;refine NoPanic.normal ?_;go_wp2_with (fail)
   rw [hu] at HI;refine HI.o.mono ?_;rintro r W4 ⟨u',rfl,ho,hm,hnb⟩;obtain ⟨an4,cn4,rfl⟩:=zAh ho;have hgb:g∉(Value.ownBlock (.slice (some ⟨gd,0,none⟩) x.m.decls.length cd)).toList:=by rw [←hu];intro c;exact HH.o.gd (by simpa using c)
   have hat3:=(HM.o.below HBW.o).mod hm hgb;have q1:=hat3.c2;have q2:=hat3.f2;have q3:=hat3.lt;have HMD:Hid (Mod (blk x.u++blk x.d) w W4):=(Mod.mono (X:=[]) (Mod.of HBW.o) (fun k hk=>by cases hk)).trans (hm.mono (fun k hk=>by rw [←hu] at hk;exact List.mem_append_right _ hk));have HO3:=lH ho;have HNB:=lH hnb;have HM3:=lH hm;clear hat3 ho hnb hm hgb;go_wp2;go_ret
   refine ⟨zAd (k:=.i64) (a:=0) (by rw [HE2.o]),fun c=>absurd (by rw [HE2.o]) c,fun _=>⟨⟨_,x.u,.slice an4 (x.m.decls.length - 1) cn4⟩,W4,by rw [HE2.o],.inr (.inr ⟨rfl,rfl⟩),HMD.o,⟨?_,?_⟩,.inl rfl,.inl (HNB.o.trans (by rw [hu]))⟩⟩
   ·have a1:=(HMR.o.below HBW.o).uses
    exact zCg a1 HM3.o (fun b hb c=>zGe (by decide) a1 (zAi HXO.o HBW.o) b hb (by rw [hu];simpa using c))
   ·refine ⟨_,?_,zWj HXR.o p⟩
    show W4.ownsRow w0.heap.size 62 11 (.slice an4 (x.m.decls.length - 1) cn4) (delAt x.m.decls p).length _
    rw [zJu _ hgl0];exact HO3.o
  ·have HE2:Hid (inMod x.m e=(⟨x.m.label,x.m.uses,x.m.decls.set p (setPart e.kind y (dAt e.fresh 0))⟩,0)):=by show _=_;rw [HE.o,if_pos rfl,if_neg hk]
   have hk7:7≤e.kind:=by have:=HK6.o;omega
   obtain ⟨F,hFF,rfl,hF⟩:=HSET.o hk7;have hf1:=HF1.o hk7;obtain ⟨f,hfe⟩:∃f,e.fresh[0]?=some f:=⟨_,List.getElem?_eq_getElem (show 0<e.fresh.length by omega)⟩;have hfd:dAt e.fresh 0=f:=zDk hfe;rw [hfd] at HE2;obtain ⟨bf,of',bn,cm,sb,ct,rfl,hfl,hfc,-,hfi⟩:=zHb HH.o.ed.fresh hfe
   have SAW:(W3.drew.cell? ⟨sS,0,none⟩=some (.func (.func F) #[] #[])∧W3.drew.cell? ⟨g,o+2,none⟩=some x.d∧W3.drew.cell? ⟨B,4,none⟩=some (.slice (some ⟨bf,of',none⟩) e.fresh.length cf)∧W3.drew.cell? ⟨bf,of',none⟩=some (.int .i64 f.id)∧W3.drew.cell? ⟨bf,of'+1,none⟩=some (.int .i64 f.kind)∧W3.drew.cell? ⟨bf,of'+2,none⟩=some (.bool f.pub)∧W3.drew.cell? ⟨bf,of'+3,none⟩=some (.slice bn f.names.length cm)∧W3.drew.cell? ⟨bf,of'+4,none⟩=some (.bool f.doubt)∧W3.drew.cell? ⟨bf,of'+5,none⟩=some (.int .i64 f.body.kind)∧W3.drew.cell? ⟨bf,of'+6,none⟩=some (.string f.body.name)∧W3.drew.cell? ⟨bf,of'+7,none⟩=some (.string f.body.more)∧W3.drew.cell? ⟨bf,of'+8,none⟩=some (.int .i64 f.body.num)∧W3.drew.cell? ⟨bf,of'+9,none⟩=some (.int .i64 f.body.den)∧W3.drew.cell? ⟨bf,of'+10,none⟩=some (.slice sb f.body.subs.length ct)∧sS<W3.drew.heap.size∧g<W3.drew.heap.size∧B<W3.drew.heap.size∧bf<W3.drew.heap.size):=⟨((zA HBW.o (Mod.refl [] W3).drew.below).cell (p:=⟨sS,0,none⟩) HSS.o).trans HSV.o,(((HM.o.below HB0.o).below HB4.o).below (Mod.refl [] W3).drew.below).c2,((HX.o.below HB4.o).below (Mod.refl [] W3).drew.below).cell (i:=4) (v:=.slice (some ⟨bf,of',none⟩) e.fresh.length cf) rfl,((zA (zA HWB.o HB4.o) (Mod.refl [] W3).drew.below).cell (p:=⟨bf,_,none⟩) hfl).trans (hfc 0 _ rfl),((zA (zA HWB.o HB4.o) (Mod.refl [] W3).drew.below).cell (p:=⟨bf,_,none⟩) hfl).trans (hfc 1 _ rfl),((zA (zA HWB.o HB4.o) (Mod.refl [] W3).drew.below).cell (p:=⟨bf,_,none⟩) hfl).trans (hfc 2 _ rfl),((zA (zA HWB.o HB4.o) (Mod.refl [] W3).drew.below).cell (p:=⟨bf,_,none⟩) hfl).trans (hfc 3 _ rfl),((zA (zA HWB.o HB4.o) (Mod.refl [] W3).drew.below).cell (p:=⟨bf,_,none⟩) hfl).trans (hfc 4 _ rfl),((zA (zA HWB.o HB4.o) (Mod.refl [] W3).drew.below).cell (p:=⟨bf,_,none⟩) hfl).trans (hfc 5 _ rfl),((zA (zA HWB.o HB4.o) (Mod.refl [] W3).drew.below).cell (p:=⟨bf,_,none⟩) hfl).trans (hfc 6 _ rfl),((zA (zA HWB.o HB4.o) (Mod.refl [] W3).drew.below).cell (p:=⟨bf,_,none⟩) hfl).trans (hfc 7 _ rfl),((zA (zA HWB.o HB4.o) (Mod.refl [] W3).drew.below).cell (p:=⟨bf,_,none⟩) hfl).trans (hfc 8 _ rfl),((zA (zA HWB.o HB4.o) (Mod.refl [] W3).drew.below).cell (p:=⟨bf,_,none⟩) hfl).trans (hfc 9 _ rfl),((zA (zA HWB.o HB4.o) (Mod.refl [] W3).drew.below).cell (p:=⟨bf,_,none⟩) hfl).trans (hfc 10 _ rfl),Nat.lt_of_lt_of_le HSS.o (zA HBW.o (Mod.refl [] W3).drew.below).size,(((HM.o.below HB0.o).below HB4.o).below (Mod.refl [] W3).drew.below).lt,((HX.o.below HB4.o).below (Mod.refl [] W3).drew.below).lt,Nat.lt_of_lt_of_le hfl (zA (zA HWB.o HB4.o) (Mod.refl [] W3).drew.below).size⟩
   have hO:=zAi HXO.o (zA HBW.o (Mod.refl [] W3).drew.below);rw [hu] at hO;have HCS:=lH (hF w0.heap.size gd cd x.m.decls.length p y f yn yc ys yk bn cm sb ct A R w0 W3.drew hO hgl0 HA.o HY.o hfi);have hf0':(0:Int)<(e.fresh.length:Int):=by omega
   have hf00':0<e.fresh.length:=by omega
   have HK:=lH hk;clear hfe hfd hfl hfc hfi hO hk7 hf1 hF hbw HE;have hkb:(e.kind==6)=false:=by simpa using hk
   clear hk;go_wp2;refine NoPanic.normal ?_;go_wp2;go_upto_region 10 with (fail)
   refine wp_region_noPanic (zAq (fun W:World=>W.cell? ⟨sS,0,none⟩=some (.func (.func F) #[] #[])∧W.cell? ⟨g,o+2,none⟩=some x.d∧W.cell? ⟨B,4,none⟩=some (.slice (some ⟨bf,of',none⟩) e.fresh.length cf)∧W.cell? ⟨bf,of',none⟩=some (.int .i64 f.id)∧W.cell? ⟨bf,of'+1,none⟩=some (.int .i64 f.kind)∧W.cell? ⟨bf,of'+2,none⟩=some (.bool f.pub)∧W.cell? ⟨bf,of'+3,none⟩=some (.slice bn f.names.length cm)∧W.cell? ⟨bf,of'+4,none⟩=some (.bool f.doubt)∧W.cell? ⟨bf,of'+5,none⟩=some (.int .i64 f.body.kind)∧W.cell? ⟨bf,of'+6,none⟩=some (.string f.body.name)∧W.cell? ⟨bf,of'+7,none⟩=some (.string f.body.more)∧W.cell? ⟨bf,of'+8,none⟩=some (.int .i64 f.body.num)∧W.cell? ⟨bf,of'+9,none⟩=some (.int .i64 f.body.den)∧W.cell? ⟨bf,of'+10,none⟩=some (.slice sb f.body.subs.length ct)∧sS<W.heap.size∧g<W.heap.size∧B<W.heap.size∧bf<W.heap.size) 11 [(true,0),(true,1),(true,2),(true,3),(true,4),(true,5),(true,6),(true,7),(true,8),(true,9),(true,10)] zAv (by kernel_rfl) (fun _ _ _ _ _ h=>h) SAW ?_)
   clear SAW
   iterate 11 (refine zAt (v:=?_) rfl (by rfl) ?_ ?_;rotate_left;(focus (intro wq hSw;(try dsimp only at hSw);go_simp;(try rw [if_neg (by first|omega|(simp;omega))]);(try with_reducible rfl)));(try simp only [gA,gB,gC,Act.put,gD,gE,gF]))
   refine zBh ?_;unfold declV at HCS;have HFF:=lH hFF;clear hFF
   rcases HFF.o with rfl|rfl|rfl
   ·go_wp2_with (fail)
    refine HCS.o.mono ?_;rintro r W4 ⟨rfl,⟨vs,ho,hrd⟩,hm⟩;have HO4:=lH ho;have HR4:=lH hrd;have HM4:=lH hm;clear ho hrd hm;go_wp2;refine NoPanic.normal ?_;go_wp2;go_ret;exact zHc HE2.o HMR.o (by rw [hu];exact HO4.o) (HRS.o _ _ HR4.o) (zA HBW.o (Mod.refl [] W3).drew.below) (by rw [hu];exact HM4.o) HXO.o
   ·go_wp2_with (fail)
    refine HCS.o.mono ?_;rintro r W4 ⟨rfl,⟨vs,ho,hrd⟩,hm⟩;have HO4:=lH ho;have HR4:=lH hrd;have HM4:=lH hm;clear ho hrd hm;go_wp2;refine NoPanic.normal ?_;go_wp2;go_ret;exact zHc HE2.o HMR.o (by rw [hu];exact HO4.o) (HRS.o _ _ HR4.o) (zA HBW.o (Mod.refl [] W3).drew.below) (by rw [hu];exact HM4.o) HXO.o
   ·go_wp2_with (fail)
    refine HCS.o.mono ?_;rintro r W4 ⟨rfl,⟨vs,ho,hrd⟩,hm⟩;have HO4:=lH ho;have HR4:=lH hrd;have HM4:=lH hm;clear ho hrd hm;go_wp2;refine NoPanic.normal ?_;go_wp2;go_ret;exact zHc HE2.o HMR.o (by rw [hu];exact HO4.o) (HRS.o _ _ HR4.o) (zA HBW.o (Mod.refl [] W3).drew.below) (by rw [hu];exact HM4.o) HXO.o
end Go.Proofs.YtfkjfdbjhlmjcaaGreatDoor
