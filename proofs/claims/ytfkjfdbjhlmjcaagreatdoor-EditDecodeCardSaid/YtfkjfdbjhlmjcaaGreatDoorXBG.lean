/- The setters of parts of a declaration. -/
import Derived.Test.YtfkjfdbjhlmjcaaGreatDoorXBE
import Derived.Test.YtfkjfdbjhlmjcaaGreatDoorXV1
set_option maxRecDepth 100000
set_option maxHeartbeats 16000000
namespace Go.Proofs.YtfkjfdbjhlmjcaaGreatDoor
open Go.RowKit Go.Shelf
attribute [local go_sem] Oper.semAt_some
theorem zDh {α:Type} (A l R:List α) (i j:Nat) (v:α) (hi:i=A.length+j) (hj:j<l.length):(A++(l++R)).set i v=A++(l.set j v++R):=by
 subst hi;rw [List.set_append_right _ _ (by omega),Nat.add_sub_cancel_left,List.set_append_left _ _ hj]
theorem zEv {α:Type} (A l R:List α) (i j:Nat) (u:α) (hi:i=A.length+j) (h:l[j]?=some u):(A++(l++R))[i]?=some u:=by
 subst hi;have hj:=(List.getElem?_eq_some_iff.1 h).1;rw [List.getElem?_append_right (by omega),Nat.add_sub_cancel_left,List.getElem?_append_left hj];exact h
theorem yBq (base gd cap n p:Nat) (d f:ODecl) (an:Option Addr) (cn:Nat) (sa:Option Addr) (cs:Nat) (bn:Option Addr) (cm:Nat) (sb:Option Addr) (ct:Nat) (A R:List Value) (w:World) (ho:w.ownsRow base 62 11 (.slice (some ⟨gd,0,none⟩) n cap) n (A++(declL d an cn sa cs++R))) (hp:p<n) (hA:A.length=p * 11) :
  Calls Tryz.prog 79 #[.pointer (some ⟨gd,p * 11,none⟩),declV f bn cm sb ct] w fun r w'=>r=.returned (.tuple #[])∧w'.ownsRow base 62 11 (.slice (some ⟨gd,0,none⟩) n cap) n (A++(declL (setPart 7 d f) bn cm sa cs++R))∧Mod [gd] w w':=by
 obtain ⟨g',cur,e1,hc,hgB,hgl,hgf,_,_,_⟩:=zCo ho (by omega)
 injection e1 with e1
 injection e1 with e1
 subst e1;have c3:=hc (p * 11+3) _ (zEv A (declL d an cn sa cs) R _ 3 (.slice an d.names.length cn) (by omega) rfl);have f3:=hgf (p * 11+3);obtain ⟨w1,hw1⟩:∃w1,w1=w.alloc (.cells (dA f bn cm sb ct) 62):=⟨_,rfl⟩;have hb1:Bw w w1:=by rw [hw1];exact zAa _ _
 have HO:Hid ((w1.setCell ⟨gd,p * 11+3,none⟩ (.slice bn f.names.length cm)).ownsRow base 62 11 (.slice (some ⟨gd,0,none⟩) n cap) n (A++(declL (setPart 7 d f) bn cm sa cs++R))):=by
  have h0:=zAq ho hb1;have h1:=zDq h0 (by omega) (p * 11+3) (.slice bn f.names.length cm);rw [zDh A (declL d an cn sa cs) R _ 3 _ (by omega) (by simp [declL])] at h1;exact h1
 have HM:Hid (Mod [gd] w ((w1.setCell ⟨gd,p * 11+3,none⟩ (.slice bn f.names.length cm)))):=((Mod.mono (X:=[]) (Mod.of hb1) (fun k hk=>by cases hk)).setCell (p:=⟨gd,p * 11+3,none⟩) (List.mem_singleton.2 rfl) _);obtain ⟨B,hB⟩:∃B,B=w.heap.size:=⟨_,rfl⟩;have hbox:CBox w1 B 62 (dA f bn cm sb ct):=by rw [hw1,hB];exact CBox.new _ _ _
 have b3:=hbox.cell (i:=3) (v:=.slice bn f.names.length cm) rfl;have bl:=hbox.lt;have d3:=(hb1.cell (p:=⟨gd,_,none⟩) hgl).trans c3;have g3:=(hb1.frozen (p:=⟨gd,_,none⟩) hgl).trans f3;have gl:=Nat.lt_of_lt_of_le hgl hb1.size;clear ho hc hgf hb1 hbox c3 f3;unfold declV
 go_enter Tryz.func79,Tryz.ntmps79
 go_upto_region 1 with (fail)
 rw [←hw1,←hB];clear hw1 hB;go_wp2
 go_end0
 exact ⟨rfl,HO.o,HM.o⟩
theorem yBr (base gd cap n p:Nat) (d f:ODecl) (an:Option Addr) (cn:Nat) (sa:Option Addr) (cs:Nat) (bn:Option Addr) (cm:Nat) (sb:Option Addr) (ct:Nat) (A R:List Value) (w:World) (ho:w.ownsRow base 62 11 (.slice (some ⟨gd,0,none⟩) n cap) n (A++(declL d an cn sa cs++R))) (hp:p<n) (hA:A.length=p * 11) :
  Calls Tryz.prog 80 #[.pointer (some ⟨gd,p * 11,none⟩),declV f bn cm sb ct] w fun r w'=>r=.returned (.tuple #[])∧w'.ownsRow base 62 11 (.slice (some ⟨gd,0,none⟩) n cap) n (A++(declL (setPart 8 d f) an cn sb ct++R))∧Mod [gd] w w':=by
 obtain ⟨g',cur,e1,hc,hgB,hgl,hgf,_,_,_⟩:=zCo ho (by omega)
 injection e1 with e1
 injection e1 with e1
 subst e1;have c5:=hc (p * 11+5) _ (zEv A (declL d an cn sa cs) R _ 5 (.int .i64 d.body.kind) (by omega) rfl);have f5:=hgf (p * 11+5);have c6:=hc (p * 11+6) _ (zEv A (declL d an cn sa cs) R _ 6 (.string d.body.name) (by omega) rfl);have f6:=hgf (p * 11+6);have c7:=hc (p * 11+7) _ (zEv A (declL d an cn sa cs) R _ 7 (.string d.body.more) (by omega) rfl);have f7:=hgf (p * 11+7);have c8:=hc (p * 11+8) _ (zEv A (declL d an cn sa cs) R _ 8 (.int .i64 d.body.num) (by omega) rfl);have f8:=hgf (p * 11+8)
 have c9:=hc (p * 11+9) _ (zEv A (declL d an cn sa cs) R _ 9 (.int .i64 d.body.den) (by omega) rfl);have f9:=hgf (p * 11+9);have c10:=hc (p * 11+10) _ (zEv A (declL d an cn sa cs) R _ 10 (.slice sa d.body.subs.length cs) (by omega) rfl);have f10:=hgf (p * 11+10);obtain ⟨w1,hw1⟩:∃w1,w1=w.alloc (.cells (dA f bn cm sb ct) 62):=⟨_,rfl⟩;have hb1:Bw w w1:=by rw [hw1];exact zAa _ _
 have HO:Hid (((((((w1.setCell ⟨gd,p * 11+5,none⟩ (.int .i64 f.body.kind)).setCell ⟨gd,p * 11+6,none⟩ (.string f.body.name)).setCell ⟨gd,p * 11+7,none⟩ (.string f.body.more)).setCell ⟨gd,p * 11+8,none⟩ (.int .i64 f.body.num)).setCell ⟨gd,p * 11+9,none⟩ (.int .i64 f.body.den)).setCell ⟨gd,p * 11+10,none⟩ (.slice sb f.body.subs.length ct)).ownsRow base 62 11 (.slice (some ⟨gd,0,none⟩) n cap) n (A++(declL (setPart 8 d f) an cn sb ct++R))):=by
  have h0:=zAq ho hb1;have h1:=zDq h0 (by omega) (p * 11+5) (.int .i64 f.body.kind);rw [zDh A (declL d an cn sa cs) R _ 5 _ (by omega) (by simp [declL])] at h1;have h2:=zDq h1 (by omega) (p * 11+6) (.string f.body.name);rw [zDh A ((declL d an cn sa cs).set 5 (.int .i64 f.body.kind)) R _ 6 _ (by omega) (by simp [declL])] at h2;have h3:=zDq h2 (by omega) (p * 11+7) (.string f.body.more);rw [zDh A (((declL d an cn sa cs).set 5 (.int .i64 f.body.kind)).set 6 (.string f.body.name)) R _ 7 _ (by omega) (by simp [declL])] at h3
  have h4:=zDq h3 (by omega) (p * 11+8) (.int .i64 f.body.num);rw [zDh A ((((declL d an cn sa cs).set 5 (.int .i64 f.body.kind)).set 6 (.string f.body.name)).set 7 (.string f.body.more)) R _ 8 _ (by omega) (by simp [declL])] at h4;have h5:=zDq h4 (by omega) (p * 11+9) (.int .i64 f.body.den);rw [zDh A (((((declL d an cn sa cs).set 5 (.int .i64 f.body.kind)).set 6 (.string f.body.name)).set 7 (.string f.body.more)).set 8 (.int .i64 f.body.num)) R _ 9 _ (by omega) (by simp [declL])] at h5
  have h6:=zDq h5 (by omega) (p * 11+10) (.slice sb f.body.subs.length ct);rw [zDh A ((((((declL d an cn sa cs).set 5 (.int .i64 f.body.kind)).set 6 (.string f.body.name)).set 7 (.string f.body.more)).set 8 (.int .i64 f.body.num)).set 9 (.int .i64 f.body.den)) R _ 10 _ (by omega) (by simp [declL])] at h6;exact h6
 have HM:Hid (Mod [gd] w (((((((w1.setCell ⟨gd,p * 11+5,none⟩ (.int .i64 f.body.kind)).setCell ⟨gd,p * 11+6,none⟩ (.string f.body.name)).setCell ⟨gd,p * 11+7,none⟩ (.string f.body.more)).setCell ⟨gd,p * 11+8,none⟩ (.int .i64 f.body.num)).setCell ⟨gd,p * 11+9,none⟩ (.int .i64 f.body.den)).setCell ⟨gd,p * 11+10,none⟩ (.slice sb f.body.subs.length ct)))):=(((((((Mod.mono (X:=[]) (Mod.of hb1) (fun k hk=>by cases hk)).setCell (p:=⟨gd,p * 11+5,none⟩) (List.mem_singleton.2 rfl) _).setCell (p:=⟨gd,p * 11+6,none⟩) (List.mem_singleton.2 rfl) _).setCell (p:=⟨gd,p * 11+7,none⟩) (List.mem_singleton.2 rfl) _).setCell (p:=⟨gd,p * 11+8,none⟩) (List.mem_singleton.2 rfl) _).setCell (p:=⟨gd,p * 11+9,none⟩) (List.mem_singleton.2 rfl) _).setCell (p:=⟨gd,p * 11+10,none⟩) (List.mem_singleton.2 rfl) _)
 obtain ⟨B,hB⟩:∃B,B=w.heap.size:=⟨_,rfl⟩;have hbox:CBox w1 B 62 (dA f bn cm sb ct):=by rw [hw1,hB];exact CBox.new _ _ _
 obtain ⟨-,-,-,-,-,b5,b6,b7,b8,b9,b10,bl⟩:=zAz hbox;have d5:=(hb1.cell (p:=⟨gd,_,none⟩) hgl).trans c5;have g5:=(hb1.frozen (p:=⟨gd,_,none⟩) hgl).trans f5;have d6:=(hb1.cell (p:=⟨gd,_,none⟩) hgl).trans c6;have g6:=(hb1.frozen (p:=⟨gd,_,none⟩) hgl).trans f6;have d7:=(hb1.cell (p:=⟨gd,_,none⟩) hgl).trans c7;have g7:=(hb1.frozen (p:=⟨gd,_,none⟩) hgl).trans f7;have d8:=(hb1.cell (p:=⟨gd,_,none⟩) hgl).trans c8;have g8:=(hb1.frozen (p:=⟨gd,_,none⟩) hgl).trans f8;have d9:=(hb1.cell (p:=⟨gd,_,none⟩) hgl).trans c9
 have g9:=(hb1.frozen (p:=⟨gd,_,none⟩) hgl).trans f9;have d10:=(hb1.cell (p:=⟨gd,_,none⟩) hgl).trans c10;have g10:=(hb1.frozen (p:=⟨gd,_,none⟩) hgl).trans f10;have gl:=Nat.lt_of_lt_of_le hgl hb1.size;clear ho hc hgf hb1 hbox c5 f5 c6 f6 c7 f7 c8 f8 c9 f9 c10 f10;unfold declV
 go_enter Tryz.func80,Tryz.ntmps80
 go_upto_region 1 with (fail)
 rw [←hw1,←hB];clear hw1 hB;go_wp2
 go_end0
 exact ⟨rfl,HO.o,HM.o⟩
def Setter (k:Int) (F:FuncId):Prop:=
  ∀(base gd cap n p:Nat) (d f:ODecl) (an:Option Addr) (cn:Nat) (sa:Option Addr) (cs:Nat) (bn:Option Addr) (cm:Nat) (sb:Option Addr) (ct:Nat) (A R:List Value) (w0 w:World),w.ownsRow base 62 11 (.slice (some ⟨gd,0,none⟩) n cap) n (A++(declL d an cn sa cs++R))→p<n→A.length=p * 11→DeclIn w0 d an cn sa cs→DeclIn w0 f bn cm sb ct →
    Calls Tryz.prog F #[.pointer (some ⟨gd,p * 11,none⟩),declV f bn cm sb ct] w fun r w'=>r=.returned (.tuple #[])∧(∃vs,w'.ownsRow base 62 11 (.slice (some ⟨gd,0,none⟩) n cap) n (A++(vs++R))∧ReadsL w0 [] (declT (setPart k d f)) vs)∧Mod [gd] w w'
theorem yDw:Setter 7 79:=fun base gd cap n p d f an cn sa cs bn cm sb ct A R _ w ho hp hA hd hf=>
 (yBq base gd cap n p d f an cn sa cs bn cm sb ct A R w ho hp hA).mono fun _ _ ⟨h1,h2,h3⟩=>⟨h1,⟨_,h2,zBr hf.names hd.subs⟩,h3⟩
theorem yDx:Setter 8 80:=fun base gd cap n p d f an cn sa cs bn cm sb ct A R _ w ho hp hA hd hf=>
 (yBr base gd cap n p d f an cn sa cs bn cm sb ct A R w ho hp hA).mono fun _ _ ⟨h1,h2,h3⟩=>⟨h1,⟨_,h2,zBr hd.names hf.subs⟩,h3⟩
theorem yBs {w:World} {l:List ODecl} {xs:List Value} (h:ReadsL w [] (l.flatMap declT) xs) {p:Nat} {y:ODecl} (hy:l[p]?=some y) :
    ∃(A R:List Value) (an:Option Addr) (cn:Nat) (sa:Option Addr) (cs:Nat),xs=A++(declL y an cn sa cs++R)∧A.length=p * 11∧DeclIn w y an cn sa cs∧∀(d:ODecl) (vs:List Value),ReadsL w [] (declT d) vs→ReadsL w [] ((l.set p d).flatMap declT) (A++(vs++R)):=by
  obtain ⟨hp,rfl⟩:=List.getElem?_eq_some_iff.1 hy
  have hl:l=l.take p++l[p]::l.drop (p+1):=by rw [←List.drop_eq_getElem_cons hp,List.take_append_drop]
  generalize l[p]=y at *
  have hP:(l.take p).length=p:=by rw [List.length_take];omega
  generalize l.take p=P at *
  generalize l.drop (p+1)=Q at *
  subst hl
  have hf:(P.flatMap declT).length=p * 11:=by rw [yBp,hP]
  rw [List.flatMap_append,List.flatMap_cons] at h
  have h1:=h.take (p * 11)
  have h2:=h.drop (p * 11)
  rw [List.take_left' hf] at h1
  rw [List.drop_left' hf] at h2
  have h3:=h2.take 11
  have h4:=h2.drop 11
  rw [List.take_left' (zDa y)] at h3
  rw [List.drop_left' (zDa y)] at h4
  obtain ⟨an,cn,sa,cs,e,n1,n2,HN,s1,s2,HS⟩:=zLy h3
  refine ⟨xs.take (p * 11),(xs.drop (p * 11)).drop 11,an,cn,sa,cs,?_,by rw [h1.len,hf],⟨HN,HS,n1,n2,s1,s2⟩,fun d vs hv=>?_⟩
  · rw [←e,List.take_append_drop,List.take_append_drop]
  · rw [zQa hP,List.flatMap_append,List.flatMap_cons]
    exact ReadsL.append (ReadsL.append h4 hv) h1
theorem zWb {k:Int} {y:ODecl} {n:Nat} (h:y.names.length≤n):(partD k y).names.length≤n:=by
 unfold partD;repeat' split
 all_goals first|exact h|exact Nat.zero_le _
theorem zWc {k:Int} {y:ODecl} {n:Nat} (h:nodesN y.body≤n) (h1:1≤n:=by decide):nodesN (partD k y).body≤n:=by
 unfold partD;repeat' split
 all_goals first|exact h|exact h1
theorem zMr {w0 w W W':World} {g o p:Nat} {x:MV} {e:OEdit} {f:ODecl} {xs ys:List Value} (hE:inMod x.m e=(⟨x.m.label,x.m.uses,x.m.decls.set p f⟩,0)) (hmr:MR w0 w x) (ho:W'.ownsRow w0.heap.size 62 11 x.d x.m.decls.length ys) (hr:ReadsL w0 [] ((x.m.decls.set p f).flatMap declT) ys)
    (hb:Below w.heap.size w W) (hm:Mod x.d.ownBlock.toList W W') (hxo:w.ownsRow w0.heap.size 62 11 x.d x.m.decls.length xs):EffPost w0 w g o x e (.returned (.int .i64 0)) W':=by
  refine ⟨zAc (k:=.i64) (a:=0) (by rw [hE]),fun c=>absurd (by rw [hE]) c,fun _=>⟨⟨⟨x.m.label,x.m.uses,x.m.decls.set p f⟩,x.u,x.d⟩,W',by rw [hE],.inl ⟨rfl,rfl,rfl⟩,(Mod.mono (X:=[]) (Mod.of hb) (fun k hk=>by cases hk)).trans (hm.mono (fun k hk=>List.mem_append_right _ hk)),⟨?_,?_⟩,.inl rfl,.inl rfl⟩⟩
  · have a1:=(hmr.below hb).uses
    exact zEm a1 hm (fun b hb' c=>zQf (by decide) a1 (zAq hxo hb) b hb' (by simpa using c))
  · exact ⟨ys,by show W'.ownsRow _ _ _ _ (x.m.decls.set p f).length _;rw [List.length_set];exact ho,hr⟩
end Go.Proofs.YtfkjfdbjhlmjcaaGreatDoor
