/- Reference 34: One, where a module is added, or taken away. Reference 34: One, where a module is taken away. -/
import Derived.Test.YtfkjfdbjhlmjcaaGreatDoorPDEX
namespace Go.Proofs.YtfkjfdbjhlmjcaaGreatDoor
open Go.RowKit Go.Shelf
attribute [local go_sem] Oper.semAt_some
set_option maxRecDepth 100000 in
set_option maxHeartbeats 8000000 in
theorem yAj (l:List OMod) (a:Option Addr) (c:Nat) (e:OEdit) (ao:Option Addr) (co:Nat) (af:Option Addr) (cf n:Nat) (w:World) (hl:Reads w [] (modsT l) (.slice a l.length c)) (hs:Srt l) (hz:SzL n l) (hn:n≤40000) (hk:e.kind=1) :
  Calls Tryz.prog 36 #[.slice a l.length c,editV e ao co af cf] w fun r w'=>OneRef w l e r w':=by
 obtain ⟨_,_,hva,hc1,hc2⟩:=zDc hl
 cases hva
 have hll:l.length≤40000:=Nat.le_trans hz.len hn;obtain ⟨E,hE⟩:∃E,E=w.heap.size:=⟨_,rfl⟩;obtain ⟨W0,hW0⟩:∃W0,W0=w.alloc (.cells #[.int .i64 e.kind,.string e.pack,.string e.text,.slice ao e.old.length co,.slice af e.fresh.length cf] 39):=⟨_,rfl⟩;have hb0:Bw w W0:=by rw [hW0];exact zAb _ _
 have hx:CBox W0 E 39 #[.int .i64 e.kind,.string e.pack,.string e.text,.slice ao e.old.length co,.slice af e.fresh.length cf]:=by rw [hW0,hE];exact CBox.new _ _ _
 have HL:=lH hl;have HS:=lH hs;have HB0:=lH hb0;have HX:=lH hx;have HC:=lH (zL l a c e.pack W0 (hl.below hb0) hs.labels (by omega));have e0:=HX.o.cell (i:=0) (v:=.int .i64 e.kind) rfl;have e1:=HX.o.cell (i:=1) (v:=.string e.pack) rfl;have el:=HX.o.lt;have HKK:=lH hk;rw [hk] at e0;clear hl hs hz hb0 hx hk;unfold editV
 go_enter Tryz.func36,Tryz.ntmps36
 go_upto_region 1 with (fail)
 rw [←hW0,←hE];clear hW0 hE;go_wp2_with (fail)
 refine HC.o.mono ?_;rintro r W1 ⟨rfl,hb1⟩;have HB1:=lH hb1;clear e0 e1 el HC;have e0:=(HX.o.below hb1).cell (i:=0) (v:=.int .i64 e.kind) rfl;have e1:=(HX.o.below hb1).cell (i:=1) (v:=.string e.pack) rfl;have el:=(HX.o.below hb1).lt;rw [HKK.o] at e0;clear hb1;have HBW:=lH (zA HB0.o HB1.o)
 rcases zAu zGj HS.o.labels e.pack with ⟨y,H⟩|H
 ·have HE:Hid (oneL l e=(l,7)):=by show _=_;unfold oneL;rw [H.look];simp [HKK.o]
  rw [H.look];simp only [Option.isSome_some]
  clear H;generalize plc ltB OMod.label l e.pack=p at *;go_wp2;go_ret2;exact zCw HE.o (HL.o.below HBW.o) HBW.o
 ·have HE:Hid (oneL l e=(insAt l (plc ltB OMod.label l e.pack) ⟨e.pack,[],[]⟩,0)):=by show _=_;unfold oneL;rw [H.look];simp [HKK.o]
  have hpl:plc ltB OMod.label l e.pack≤l.length:=zHf _ _;rw [H.look];simp only [Option.isSome_none]
  clear H;generalize plc ltB OMod.label l e.pack=p at *;obtain ⟨A,C,hA,hC,hpre,hsuf⟩:=zHr HL.o p;have HPRE:=lH ((hpre hpl).below HBW.o);have HSUF:Hid (∀W,Bw w W→∀a',(∀b o,p<l.length→a=some ⟨b,o,none⟩→a'=some ⟨b,o+p * 3,none⟩)→IsRow W 3 (.slice a' (l.length - p) (c - p)) (l.length - p) C):=fun W hW a' ha=>(hsuf a' hpl ha).below hW;have HRA:=lH hA;have HRC:=lH hC;have HO1:=lH (zCs hA);have HO2:=lH (zCs hC);obtain ⟨i0,z,hi,hz0,hzs,hz1,hz2⟩:=zAn zFd
  have SW:Hid (∀W:World,Bw W1 W→(W.cell? ⟨E,1,none⟩=some (.string e.pack)∧E<W.heap.size)):=fun W hW=>⟨((HX.o.below HB1.o).below hW).cell (i:=1) (v:=.string e.pack) rfl,((HX.o.below HB1.o).below hW).lt⟩;clear hA hC hpre hsuf;clear e1 el;have hpi:(p:Int)≤(l.length:Int):=by omega
  have hpc:(p:Int)≤(c:Int):=by omega
  have hw2:((p:Int)).toNat=p:=by omega
  have hw3:(0:Int)≤(p:Int):=by omega
  cases a with
  | none=>
   go_upto_region 5 with (fail)
   clear e0
   go_cut [8] from 24 to 34 (fun c wx=>OwnM w wx W1.heap.size c (l.take p++[⟨e.pack,[],[]⟩])∧RowKit.Below W1.heap.size W1 wx)
   case first=>
    have hq2:Bw W1 W1.drew:=(Mod.refl [] W1).drew.below;refine wp_region_noPanic (zEa (fun W:World=>W.cell? ⟨E,1,none⟩=some (.string e.pack)∧E<W.heap.size) (.take 1 (.take 2 (.take 3 (.take 5 (.take 6 (.take 7 (.two 0 8 (.two 4 8 (.one 8 (.one 9 (.one 10 .done))) (.one 4 (.one 9 (.one 10 .done)))) (.one 0 (.one 4 (.one 9 (.one 10 .done))))))))))) zAw (by kernel_rfl) (fun _ _ _ _ _ h=>h) (SW.o _ hq2) ?_)
    iterate 6 (refine zFx (v:=?_) rfl (by rfl) ?_ ?_;rotate_left;(focus (intro wq hSw;(try dsimp only at hSw);go_simp;(try with_reducible rfl)));(try simp only [gA,gB,gC,Act.put,gD,gE,gF]))
    generalize W1.drew=W2 at *;refine zDg ?_ ?_
    ·refine zAh rfl (by rfl) (fun K hK=>?_)
     go_simp
     obtain ⟨W3,hW3⟩:∃W3,W3=W2.alloc (.cells #[] 52):=⟨_,rfl⟩;obtain ⟨z0,hz0'⟩:∃z0,z0=W2.heap.size:=⟨_,rfl⟩;have hs3:Bw W2 W3:=by rw [hW3];exact zAb _ _
     have hq3:=zA hq2 hs3;have hN0:W3.ownsRow W1.heap.size 52 3 (.slice (some ⟨z0,0,none⟩) 0 0) 0 []:=by rw [hW3,hz0'];exact World.ownsRow_made _ #[] 0 hq2.size (Nat.zero_le _) rfl
     rw [←hW3,←hz0'];have hz0g:W2.heap.size≤z0:=by omega
     have hz0u:z0<W3.heap.size:=(hN0.lt z0 rfl).2;clear hW3 hz0';refine hK.out _ _ (SW.o _ hq3) ?_;clear hK K;(try simp only [gA,gB,gC,Act.put,gD,gE,gF]);refine zDg ?_ ?_
     ·refine zAh rfl (by rfl) (fun K hK=>?_)
      refine zAj _ _ 22 rfl W1.heap.size 52 i0 _ 3 64 Tryz.underlying22 hi hz0 hz1 hz2 hzs (by decide) (.slice (some ⟨z0,0,none⟩) 0 0) 0 [] rfl hN0 _ p A rfl (HPRE.o.below hq3) HO1.o (by unfold maxLen;omega) (by omega) hq3.size ?_;intro v4 W4 hown4 hg4;have hq4:Bw W1 W4:=hq3.grown hg4 hq3.size (fun k hk=>((hN0).lt k hk).1);refine hK.out _ _ (SW.o _ hq4) ?_;clear hK K;(try simp only [gA,gB,gC,Act.put,gD,gE,gF]);refine zAh rfl (by rfl) (fun K hK=>?_)
      go_simp
      obtain ⟨W5,hW5⟩:∃W5,W5=W4.alloc (.cells #[.string e.pack,.slice none 0 0,.slice none 0 0] 52):=⟨_,rfl⟩;obtain ⟨z9,hz9'⟩:∃z9,z9=W4.heap.size:=⟨_,rfl⟩;have hs5:Bw W4 W5:=by rw [hW5];exact zAb _ _
      have hq5:=zA hq4 hs5;have h95:IsRow W5 3 (.slice (some ⟨z9,0,none⟩) 1 1) 1 [.string e.pack,.slice none 0 0,.slice none 0 0]:=zGh (by rw [hW5,hz9'];exact CBox.new _ _ _);rw [←hW5,←hz9'];have hz9g:W4.heap.size≤z9:=by omega
      have hz9u:z9<W5.heap.size:=by rw [hz9',hW5,World.size_alloc];omega
      clear hW5 hz9';have hN4_5:=zAg hown4 hs5;refine hK.out _ _ (SW.o _ hq5) ?_;clear hK K;(try simp only [gA,gB,gC,Act.put,gD,gE,gF]);refine zAh rfl (by rfl) (fun K hK=>?_);refine zAj _ _ 22 rfl W1.heap.size 52 i0 _ 3 64 Tryz.underlying22 hi hz0 hz1 hz2 hzs (by decide) v4 (0+p) ([]++A) rfl hN4_5 _ 1 [.string e.pack,.slice none 0 0,.slice none 0 0] rfl h95 (by intro u hu;simp only [List.mem_cons,List.not_mem_nil,or_false] at hu;rcases hu with rfl|rfl|rfl<;>rfl) (by unfold maxLen;omega) (by omega) hq5.size ?_
      intro v5 W6 hown5 hg5;have hq6:Bw W1 W6:=hq5.grown hg5 hq5.size (fun k hk=>((hN4_5).lt k hk).1);refine hK.out _ _ (SW.o _ hq6) ?_;clear hK K;(try simp only [gA,gB,gC,Act.put,gD,gE,gF]);refine zAh rfl (by rfl) (fun K hK=>?_);go_simp;refine hK.out _ _ (SW.o _ hq6) ?_;clear hK K;(try simp only [gA,gB,gC,Act.put,gD,gE,gF])
      have HEND:Hid (OwnM w W6 W1.heap.size v5 (l.take p++[⟨e.pack,[],[]⟩])):=⟨_,by
       rw [List.length_append,List.length_take,Nat.min_eq_left hpl]
       rw [Nat.zero_add,List.nil_append] at hown5;exact hown5,by rw [List.flatMap_append];exact ReadsL.append (by simpa using zIg w [] e.pack) HRA.o⟩
      have HQE:=lH hq6;refine zBt ?_;refine NoPanic.normal ?_;go_wp2;go_meet
      case rel=>exact ⟨HEND.o,HQE.o⟩
     ·refine zAh rfl (by rfl) (fun K hK=>?_)
      go_simp
      obtain ⟨W4,hW4⟩:∃W4,W4=W3.alloc (.cells #[.string e.pack,.slice none 0 0,.slice none 0 0] 52):=⟨_,rfl⟩;obtain ⟨z9,hz9'⟩:∃z9,z9=W3.heap.size:=⟨_,rfl⟩;have hs4:Bw W3 W4:=by rw [hW4];exact zAb _ _
      have hq4:=zA hq3 hs4;have h94:IsRow W4 3 (.slice (some ⟨z9,0,none⟩) 1 1) 1 [.string e.pack,.slice none 0 0,.slice none 0 0]:=zGh (by rw [hW4,hz9'];exact CBox.new _ _ _);rw [←hW4,←hz9'];have hz9g:W3.heap.size≤z9:=by omega
      have hz9u:z9<W4.heap.size:=by rw [hz9',hW4,World.size_alloc];omega
      clear hW4 hz9';have hN0_4:=zAg hN0 hs4;refine hK.out _ _ (SW.o _ hq4) ?_;clear hK K;(try simp only [gA,gB,gC,Act.put,gD,gE,gF]);refine zAh rfl (by rfl) (fun K hK=>?_);refine zAj _ _ 22 rfl W1.heap.size 52 i0 _ 3 64 Tryz.underlying22 hi hz0 hz1 hz2 hzs (by decide) (.slice (some ⟨z0,0,none⟩) 0 0) 0 [] rfl hN0_4 _ p A rfl (HPRE.o.below hq4) HO1.o (by unfold maxLen;omega) (by omega) hq4.size ?_;intro v4 W5 hown4 hg4;have hq5:Bw W1 W5:=hq4.grown hg4 hq4.size (fun k hk=>((hN0_4).lt k hk).1)
      have h95:=h94.mod (zAl hg4) (fun b hb c=>by injection hb with hb;subst hb;simp [Value.ownBlock] at c;omega);refine hK.out _ _ (SW.o _ hq5) ?_;clear hK K;(try simp only [gA,gB,gC,Act.put,gD,gE,gF]);refine zAh rfl (by rfl) (fun K hK=>?_)
      refine zAj _ _ 22 rfl W1.heap.size 52 i0 _ 3 64 Tryz.underlying22 hi hz0 hz1 hz2 hzs (by decide) v4 (0+p) ([]++A) rfl hown4 _ 1 [.string e.pack,.slice none 0 0,.slice none 0 0] rfl h95 (by intro u hu;simp only [List.mem_cons,List.not_mem_nil,or_false] at hu;rcases hu with rfl|rfl|rfl<;>rfl) (by unfold maxLen;omega) (by omega) hq5.size ?_;intro v5 W6 hown5 hg5;have hq6:Bw W1 W6:=hq5.grown hg5 hq5.size (fun k hk=>((hown4).lt k hk).1);refine hK.out _ _ (SW.o _ hq6) ?_;clear hK K;(try simp only [gA,gB,gC,Act.put,gD,gE,gF])
      refine zAh rfl (by rfl) (fun K hK=>?_);go_simp;refine hK.out _ _ (SW.o _ hq6) ?_;clear hK K;(try simp only [gA,gB,gC,Act.put,gD,gE,gF])
      have HEND:Hid (OwnM w W6 W1.heap.size v5 (l.take p++[⟨e.pack,[],[]⟩])):=⟨_,by
       rw [List.length_append,List.length_take,Nat.min_eq_left hpl]
       rw [Nat.zero_add,List.nil_append] at hown5;exact hown5,by rw [List.flatMap_append];exact ReadsL.append (by simpa using zIg w [] e.pack) HRA.o⟩
      have HQE:=lH hq6;refine zBt ?_;refine NoPanic.normal ?_;go_wp2;go_meet
      case rel=>exact ⟨HEND.o,HQE.o⟩
    ·refine zAh rfl (by rfl) (fun K hK=>?_)
     go_simp
     obtain ⟨W3,hW3⟩:∃W3,W3=W2.alloc (.cells #[.string e.pack,.slice none 0 0,.slice none 0 0] 52):=⟨_,rfl⟩;obtain ⟨z9,hz9'⟩:∃z9,z9=W2.heap.size:=⟨_,rfl⟩;have hs3:Bw W2 W3:=by rw [hW3];exact zAb _ _
     have hq3:=zA hq2 hs3;have h93:IsRow W3 3 (.slice (some ⟨z9,0,none⟩) 1 1) 1 [.string e.pack,.slice none 0 0,.slice none 0 0]:=zGh (by rw [hW3,hz9'];exact CBox.new _ _ _);rw [←hW3,←hz9'];have hz9g:W2.heap.size≤z9:=by omega
     have hz9u:z9<W3.heap.size:=by rw [hz9',hW3,World.size_alloc];omega
     clear hW3 hz9';refine hK.out _ _ (SW.o _ hq3) ?_;clear hK K;(try simp only [gA,gB,gC,Act.put,gD,gE,gF]);refine zAh rfl (by rfl) (fun K hK=>?_)
     go_simp
     obtain ⟨W4,hW4⟩:∃W4,W4=W3.alloc (.cells #[] 52):=⟨_,rfl⟩;obtain ⟨z0,hz0'⟩:∃z0,z0=W3.heap.size:=⟨_,rfl⟩;have hs4:Bw W3 W4:=by rw [hW4];exact zAb _ _
     have hq4:=zA hq3 hs4;have hN0:W4.ownsRow W1.heap.size 52 3 (.slice (some ⟨z0,0,none⟩) 0 0) 0 []:=by rw [hW4,hz0'];exact World.ownsRow_made _ #[] 0 hq3.size (Nat.zero_le _) rfl
     rw [←hW4,←hz0'];have hz0g:W3.heap.size≤z0:=by omega
     have hz0u:z0<W4.heap.size:=(hN0.lt z0 rfl).2;clear hW4 hz0';have h94:=h93.below hs4;refine hK.out _ _ (SW.o _ hq4) ?_;clear hK K;(try simp only [gA,gB,gC,Act.put,gD,gE,gF]);refine zAh rfl (by rfl) (fun K hK=>?_);refine zAj _ _ 22 rfl W1.heap.size 52 i0 _ 3 64 Tryz.underlying22 hi hz0 hz1 hz2 hzs (by decide) (.slice (some ⟨z0,0,none⟩) 0 0) 0 [] rfl hN0 _ p A rfl (HPRE.o.below hq4) HO1.o (by unfold maxLen;omega) (by omega) hq4.size ?_;intro v4 W5 hown4 hg4
     have hq5:Bw W1 W5:=hq4.grown hg4 hq4.size (fun k hk=>((hN0).lt k hk).1);have h95:=h94.mod (zAl hg4) (fun b hb c=>by injection hb with hb;subst hb;simp [Value.ownBlock] at c;omega);refine hK.out _ _ (SW.o _ hq5) ?_;clear hK K;(try simp only [gA,gB,gC,Act.put,gD,gE,gF]);refine zAh rfl (by rfl) (fun K hK=>?_)
     refine zAj _ _ 22 rfl W1.heap.size 52 i0 _ 3 64 Tryz.underlying22 hi hz0 hz1 hz2 hzs (by decide) v4 (0+p) ([]++A) rfl hown4 _ 1 [.string e.pack,.slice none 0 0,.slice none 0 0] rfl h95 (by intro u hu;simp only [List.mem_cons,List.not_mem_nil,or_false] at hu;rcases hu with rfl|rfl|rfl<;>rfl) (by unfold maxLen;omega) (by omega) hq5.size ?_;intro v5 W6 hown5 hg5;have hq6:Bw W1 W6:=hq5.grown hg5 hq5.size (fun k hk=>((hown4).lt k hk).1);refine hK.out _ _ (SW.o _ hq6) ?_;clear hK K;(try simp only [gA,gB,gC,Act.put,gD,gE,gF])
     refine zAh rfl (by rfl) (fun K hK=>?_);go_simp;refine hK.out _ _ (SW.o _ hq6) ?_;clear hK K;(try simp only [gA,gB,gC,Act.put,gD,gE,gF])
     have HEND:Hid (OwnM w W6 W1.heap.size v5 (l.take p++[⟨e.pack,[],[]⟩])):=⟨_,by
      rw [List.length_append,List.length_take,Nat.min_eq_left hpl]
      rw [Nat.zero_add,List.nil_append] at hown5;exact hown5,by rw [List.flatMap_append];exact ReadsL.append (by simpa using zIg w [] e.pack) HRA.o⟩
     have HQE:=lH hq6;refine zBt ?_;refine NoPanic.normal ?_;go_wp2;go_meet
     case rel=>exact ⟨HEND.o,HQE.o⟩
   case rest=>
    obtain ⟨⟨xs,ho,hx⟩,hb2⟩:=hcut;have hlen:(l.take p++[(⟨e.pack,[],[]⟩:OMod)]).length=p+1:=by rw [List.length_append,List.length_take,Nat.min_eq_left hpl];rfl
    rw [hlen] at ho;obtain ⟨va0,vc0,rfl⟩:=zAe ho;have HO:=lH ho;have HXX:=lH hx;have hb3:=zA HB1.o hb2;have HB2:=lH hb2;have HB3:=lH (zA HB0.o hb3);have HL2:Hid (p+1+(l.length - p)=(insAt l p ⟨e.pack,[],[]⟩).length):=by show _=_;rw [zDv _ hpl];omega
    have hsz:=hb2.size;clear ho hx hb2 hb3 hlen;have hsr:=HSUF.o wc HB3.o none (fun b o _ h=>by cases h);go_wp2_with (at_builtin;refine zAa rfl _ _ 22 rfl W1.heap.size 52 i0 _ 3 64 Tryz.underlying22 hi hz0 hz1 hz2 hzs (by decide) _ _ _ rfl HO.o _ _ _ rfl hsr HO2.o (by unfold maxLen;omega) (by omega) hsz ?_)
    intro v2 w2 hown2 hg2 hbq
    first|replace hown2:=zCk hown2 HL2.o|skip
    have HQ:Hid (Bw W1 w2):=HB2.o.grown hg2 hsz (fun k hk=>(HO.o.lt k hk).1)
    have HOW:Hid (OwnM w w2 W1.heap.size v2 (insAt l p ⟨e.pack,[],[]⟩)):=⟨_,hown2,by
     have e:insAt l p ⟨e.pack,[],[]⟩=l.take p++[⟨e.pack,[],[]⟩]++l.drop p:=by unfold insAt;rw [List.append_assoc];rfl
     rw [e,List.flatMap_append];exact ReadsL.append HRC.o HXX.o⟩
    clear hown2 hg2 hbq hsr hsz;go_wp2;go_ret2;exact zCw HE.o (HOW.o.reads (zA HBW.o HQ.o)) (zA HBW.o HQ.o)
  | some ad=>
   go_upto_region 5 with (fail)
   clear e0
   go_cut [8] from 24 to 34 (fun c wx=>OwnM w wx W1.heap.size c (l.take p++[⟨e.pack,[],[]⟩])∧RowKit.Below W1.heap.size W1 wx)
   case first=>
    have hq2:Bw W1 W1.drew:=(Mod.refl [] W1).drew.below;refine wp_region_noPanic (zEa (fun W:World=>W.cell? ⟨E,1,none⟩=some (.string e.pack)∧E<W.heap.size) (.take 1 (.take 2 (.take 3 (.take 5 (.take 6 (.take 7 (.two 0 8 (.two 4 8 (.one 8 (.one 9 (.one 10 .done))) (.one 4 (.one 9 (.one 10 .done)))) (.one 0 (.one 4 (.one 9 (.one 10 .done))))))))))) zAw (by kernel_rfl) (fun _ _ _ _ _ h=>h) (SW.o _ hq2) ?_)
    iterate 6 (refine zFx (v:=?_) rfl (by rfl) ?_ ?_;rotate_left;(focus (intro wq hSw;(try dsimp only at hSw);go_simp;(try with_reducible rfl)));(try simp only [gA,gB,gC,Act.put,gD,gE,gF]))
    generalize W1.drew=W2 at *;refine zDg ?_ ?_
    ·refine zAh rfl (by rfl) (fun K hK=>?_)
     go_simp
     obtain ⟨W3,hW3⟩:∃W3,W3=W2.alloc (.cells #[] 52):=⟨_,rfl⟩;obtain ⟨z0,hz0'⟩:∃z0,z0=W2.heap.size:=⟨_,rfl⟩;have hs3:Bw W2 W3:=by rw [hW3];exact zAb _ _
     have hq3:=zA hq2 hs3;have hN0:W3.ownsRow W1.heap.size 52 3 (.slice (some ⟨z0,0,none⟩) 0 0) 0 []:=by rw [hW3,hz0'];exact World.ownsRow_made _ #[] 0 hq2.size (Nat.zero_le _) rfl
     rw [←hW3,←hz0'];have hz0g:W2.heap.size≤z0:=by omega
     have hz0u:z0<W3.heap.size:=(hN0.lt z0 rfl).2;clear hW3 hz0';refine hK.out _ _ (SW.o _ hq3) ?_;clear hK K;(try simp only [gA,gB,gC,Act.put,gD,gE,gF]);refine zDg ?_ ?_
     ·refine zAh rfl (by rfl) (fun K hK=>?_)
      refine zAj _ _ 22 rfl W1.heap.size 52 i0 _ 3 64 Tryz.underlying22 hi hz0 hz1 hz2 hzs (by decide) (.slice (some ⟨z0,0,none⟩) 0 0) 0 [] rfl hN0 _ p A rfl (HPRE.o.below hq3) HO1.o (by unfold maxLen;omega) (by omega) hq3.size ?_;intro v4 W4 hown4 hg4;have hq4:Bw W1 W4:=hq3.grown hg4 hq3.size (fun k hk=>((hN0).lt k hk).1);refine hK.out _ _ (SW.o _ hq4) ?_;clear hK K;(try simp only [gA,gB,gC,Act.put,gD,gE,gF]);refine zAh rfl (by rfl) (fun K hK=>?_)
      go_simp
      obtain ⟨W5,hW5⟩:∃W5,W5=W4.alloc (.cells #[.string e.pack,.slice none 0 0,.slice none 0 0] 52):=⟨_,rfl⟩;obtain ⟨z9,hz9'⟩:∃z9,z9=W4.heap.size:=⟨_,rfl⟩;have hs5:Bw W4 W5:=by rw [hW5];exact zAb _ _
      have hq5:=zA hq4 hs5;have h95:IsRow W5 3 (.slice (some ⟨z9,0,none⟩) 1 1) 1 [.string e.pack,.slice none 0 0,.slice none 0 0]:=zGh (by rw [hW5,hz9'];exact CBox.new _ _ _);rw [←hW5,←hz9'];have hz9g:W4.heap.size≤z9:=by omega
      have hz9u:z9<W5.heap.size:=by rw [hz9',hW5,World.size_alloc];omega
      clear hW5 hz9';have hN4_5:=zAg hown4 hs5;refine hK.out _ _ (SW.o _ hq5) ?_;clear hK K;(try simp only [gA,gB,gC,Act.put,gD,gE,gF]);refine zAh rfl (by rfl) (fun K hK=>?_);refine zAj _ _ 22 rfl W1.heap.size 52 i0 _ 3 64 Tryz.underlying22 hi hz0 hz1 hz2 hzs (by decide) v4 (0+p) ([]++A) rfl hN4_5 _ 1 [.string e.pack,.slice none 0 0,.slice none 0 0] rfl h95 (by intro u hu;simp only [List.mem_cons,List.not_mem_nil,or_false] at hu;rcases hu with rfl|rfl|rfl<;>rfl) (by unfold maxLen;omega) (by omega) hq5.size ?_
      intro v5 W6 hown5 hg5;have hq6:Bw W1 W6:=hq5.grown hg5 hq5.size (fun k hk=>((hN4_5).lt k hk).1);refine hK.out _ _ (SW.o _ hq6) ?_;clear hK K;(try simp only [gA,gB,gC,Act.put,gD,gE,gF]);refine zAh rfl (by rfl) (fun K hK=>?_);go_simp;refine hK.out _ _ (SW.o _ hq6) ?_;clear hK K;(try simp only [gA,gB,gC,Act.put,gD,gE,gF])
      have HEND:Hid (OwnM w W6 W1.heap.size v5 (l.take p++[⟨e.pack,[],[]⟩])):=⟨_,by
       rw [List.length_append,List.length_take,Nat.min_eq_left hpl]
       rw [Nat.zero_add,List.nil_append] at hown5;exact hown5,by rw [List.flatMap_append];exact ReadsL.append (by simpa using zIg w [] e.pack) HRA.o⟩
      have HQE:=lH hq6;refine zBt ?_;refine NoPanic.normal ?_;go_wp2;go_meet
      case rel=>exact ⟨HEND.o,HQE.o⟩
     ·refine zAh rfl (by rfl) (fun K hK=>?_)
      go_simp
      obtain ⟨W4,hW4⟩:∃W4,W4=W3.alloc (.cells #[.string e.pack,.slice none 0 0,.slice none 0 0] 52):=⟨_,rfl⟩;obtain ⟨z9,hz9'⟩:∃z9,z9=W3.heap.size:=⟨_,rfl⟩;have hs4:Bw W3 W4:=by rw [hW4];exact zAb _ _
      have hq4:=zA hq3 hs4;have h94:IsRow W4 3 (.slice (some ⟨z9,0,none⟩) 1 1) 1 [.string e.pack,.slice none 0 0,.slice none 0 0]:=zGh (by rw [hW4,hz9'];exact CBox.new _ _ _);rw [←hW4,←hz9'];have hz9g:W3.heap.size≤z9:=by omega
      have hz9u:z9<W4.heap.size:=by rw [hz9',hW4,World.size_alloc];omega
      clear hW4 hz9';have hN0_4:=zAg hN0 hs4;refine hK.out _ _ (SW.o _ hq4) ?_;clear hK K;(try simp only [gA,gB,gC,Act.put,gD,gE,gF]);refine zAh rfl (by rfl) (fun K hK=>?_);refine zAj _ _ 22 rfl W1.heap.size 52 i0 _ 3 64 Tryz.underlying22 hi hz0 hz1 hz2 hzs (by decide) (.slice (some ⟨z0,0,none⟩) 0 0) 0 [] rfl hN0_4 _ p A rfl (HPRE.o.below hq4) HO1.o (by unfold maxLen;omega) (by omega) hq4.size ?_;intro v4 W5 hown4 hg4;have hq5:Bw W1 W5:=hq4.grown hg4 hq4.size (fun k hk=>((hN0_4).lt k hk).1)
      have h95:=h94.mod (zAl hg4) (fun b hb c=>by injection hb with hb;subst hb;simp [Value.ownBlock] at c;omega);refine hK.out _ _ (SW.o _ hq5) ?_;clear hK K;(try simp only [gA,gB,gC,Act.put,gD,gE,gF]);refine zAh rfl (by rfl) (fun K hK=>?_)
      refine zAj _ _ 22 rfl W1.heap.size 52 i0 _ 3 64 Tryz.underlying22 hi hz0 hz1 hz2 hzs (by decide) v4 (0+p) ([]++A) rfl hown4 _ 1 [.string e.pack,.slice none 0 0,.slice none 0 0] rfl h95 (by intro u hu;simp only [List.mem_cons,List.not_mem_nil,or_false] at hu;rcases hu with rfl|rfl|rfl<;>rfl) (by unfold maxLen;omega) (by omega) hq5.size ?_;intro v5 W6 hown5 hg5;have hq6:Bw W1 W6:=hq5.grown hg5 hq5.size (fun k hk=>((hown4).lt k hk).1);refine hK.out _ _ (SW.o _ hq6) ?_;clear hK K;(try simp only [gA,gB,gC,Act.put,gD,gE,gF])
      refine zAh rfl (by rfl) (fun K hK=>?_);go_simp;refine hK.out _ _ (SW.o _ hq6) ?_;clear hK K;(try simp only [gA,gB,gC,Act.put,gD,gE,gF])
      have HEND:Hid (OwnM w W6 W1.heap.size v5 (l.take p++[⟨e.pack,[],[]⟩])):=⟨_,by
       rw [List.length_append,List.length_take,Nat.min_eq_left hpl]
       rw [Nat.zero_add,List.nil_append] at hown5;exact hown5,by rw [List.flatMap_append];exact ReadsL.append (by simpa using zIg w [] e.pack) HRA.o⟩
      have HQE:=lH hq6;refine zBt ?_;refine NoPanic.normal ?_;go_wp2;go_meet
      case rel=>exact ⟨HEND.o,HQE.o⟩
    ·refine zAh rfl (by rfl) (fun K hK=>?_)
     go_simp
     obtain ⟨W3,hW3⟩:∃W3,W3=W2.alloc (.cells #[.string e.pack,.slice none 0 0,.slice none 0 0] 52):=⟨_,rfl⟩;obtain ⟨z9,hz9'⟩:∃z9,z9=W2.heap.size:=⟨_,rfl⟩;have hs3:Bw W2 W3:=by rw [hW3];exact zAb _ _
     have hq3:=zA hq2 hs3;have h93:IsRow W3 3 (.slice (some ⟨z9,0,none⟩) 1 1) 1 [.string e.pack,.slice none 0 0,.slice none 0 0]:=zGh (by rw [hW3,hz9'];exact CBox.new _ _ _);rw [←hW3,←hz9'];have hz9g:W2.heap.size≤z9:=by omega
     have hz9u:z9<W3.heap.size:=by rw [hz9',hW3,World.size_alloc];omega
     clear hW3 hz9';refine hK.out _ _ (SW.o _ hq3) ?_;clear hK K;(try simp only [gA,gB,gC,Act.put,gD,gE,gF]);refine zAh rfl (by rfl) (fun K hK=>?_)
     go_simp
     obtain ⟨W4,hW4⟩:∃W4,W4=W3.alloc (.cells #[] 52):=⟨_,rfl⟩;obtain ⟨z0,hz0'⟩:∃z0,z0=W3.heap.size:=⟨_,rfl⟩;have hs4:Bw W3 W4:=by rw [hW4];exact zAb _ _
     have hq4:=zA hq3 hs4;have hN0:W4.ownsRow W1.heap.size 52 3 (.slice (some ⟨z0,0,none⟩) 0 0) 0 []:=by rw [hW4,hz0'];exact World.ownsRow_made _ #[] 0 hq3.size (Nat.zero_le _) rfl
     rw [←hW4,←hz0'];have hz0g:W3.heap.size≤z0:=by omega
     have hz0u:z0<W4.heap.size:=(hN0.lt z0 rfl).2;clear hW4 hz0';have h94:=h93.below hs4;refine hK.out _ _ (SW.o _ hq4) ?_;clear hK K;(try simp only [gA,gB,gC,Act.put,gD,gE,gF]);refine zAh rfl (by rfl) (fun K hK=>?_);refine zAj _ _ 22 rfl W1.heap.size 52 i0 _ 3 64 Tryz.underlying22 hi hz0 hz1 hz2 hzs (by decide) (.slice (some ⟨z0,0,none⟩) 0 0) 0 [] rfl hN0 _ p A rfl (HPRE.o.below hq4) HO1.o (by unfold maxLen;omega) (by omega) hq4.size ?_;intro v4 W5 hown4 hg4
     have hq5:Bw W1 W5:=hq4.grown hg4 hq4.size (fun k hk=>((hN0).lt k hk).1);have h95:=h94.mod (zAl hg4) (fun b hb c=>by injection hb with hb;subst hb;simp [Value.ownBlock] at c;omega);refine hK.out _ _ (SW.o _ hq5) ?_;clear hK K;(try simp only [gA,gB,gC,Act.put,gD,gE,gF]);refine zAh rfl (by rfl) (fun K hK=>?_)
     refine zAj _ _ 22 rfl W1.heap.size 52 i0 _ 3 64 Tryz.underlying22 hi hz0 hz1 hz2 hzs (by decide) v4 (0+p) ([]++A) rfl hown4 _ 1 [.string e.pack,.slice none 0 0,.slice none 0 0] rfl h95 (by intro u hu;simp only [List.mem_cons,List.not_mem_nil,or_false] at hu;rcases hu with rfl|rfl|rfl<;>rfl) (by unfold maxLen;omega) (by omega) hq5.size ?_;intro v5 W6 hown5 hg5;have hq6:Bw W1 W6:=hq5.grown hg5 hq5.size (fun k hk=>((hown4).lt k hk).1);refine hK.out _ _ (SW.o _ hq6) ?_;clear hK K;(try simp only [gA,gB,gC,Act.put,gD,gE,gF])
     refine zAh rfl (by rfl) (fun K hK=>?_);go_simp;refine hK.out _ _ (SW.o _ hq6) ?_;clear hK K;(try simp only [gA,gB,gC,Act.put,gD,gE,gF])
     have HEND:Hid (OwnM w W6 W1.heap.size v5 (l.take p++[⟨e.pack,[],[]⟩])):=⟨_,by
      rw [List.length_append,List.length_take,Nat.min_eq_left hpl]
      rw [Nat.zero_add,List.nil_append] at hown5;exact hown5,by rw [List.flatMap_append];exact ReadsL.append (by simpa using zIg w [] e.pack) HRA.o⟩
     have HQE:=lH hq6;refine zBt ?_;refine NoPanic.normal ?_;go_wp2;go_meet
     case rel=>exact ⟨HEND.o,HQE.o⟩
   case rest=>
    obtain ⟨⟨xs,ho,hx⟩,hb2⟩:=hcut;have hlen:(l.take p++[(⟨e.pack,[],[]⟩:OMod)]).length=p+1:=by rw [List.length_append,List.length_take,Nat.min_eq_left hpl];rfl
    rw [hlen] at ho;obtain ⟨va0,vc0,rfl⟩:=zAe ho;have HO:=lH ho;have HXX:=lH hx;have hb3:=zA HB1.o hb2;have HB2:=lH hb2;have HB3:=lH (zA HB0.o hb3);have HL2:Hid (p+1+(l.length - p)=(insAt l p ⟨e.pack,[],[]⟩).length):=by show _=_;rw [zDv _ hpl];omega
    have hsz:=hb2.size;clear ho hx hb2 hb3 hlen
    rcases Nat.eq_or_lt_of_le (show p≤c by omega) with hcp|hcp
    ·subst hcp
     have hsr:=HSUF.o wc HB3.o (some ad) (fun b o h _=>by omega);have h00:l.length - p=0:=by omega
     rw [Nat.sub_self,h00] at hsr;rw [h00] at HL2;clear h00;go_wp2_with (at_builtin;refine zAa rfl _ _ 22 rfl W1.heap.size 52 i0 _ 3 64 Tryz.underlying22 hi hz0 hz1 hz2 hzs (by decide) _ _ _ rfl HO.o _ _ _ rfl hsr HO2.o (by unfold maxLen;omega) (by omega) hsz ?_)
     intro v2 w2 hown2 hg2 hbq
     first|replace hown2:=zCk hown2 HL2.o|skip
     have HQ:Hid (Bw W1 w2):=HB2.o.grown hg2 hsz (fun k hk=>(HO.o.lt k hk).1)
     have HOW:Hid (OwnM w w2 W1.heap.size v2 (insAt l p ⟨e.pack,[],[]⟩)):=⟨_,hown2,by
      have e:insAt l p ⟨e.pack,[],[]⟩=l.take p++[⟨e.pack,[],[]⟩]++l.drop p:=by unfold insAt;rw [List.append_assoc];rfl
      rw [e,List.flatMap_append];exact ReadsL.append HRC.o HXX.o⟩
     clear hown2 hg2 hbq hsr hsz;go_wp2;go_ret2;exact zCw HE.o (HOW.o.reads (zA HBW.o HQ.o)) (zA HBW.o HQ.o)
    ·have hsr:=HSUF.o wc HB3.o (some (ad.add (p * 3))) (fun b o _ h=>by injection h with h;rw [h,Addr.add_lit])
     have hcp2:¬c=p:=by omega
     go_wp2_with (at_builtin;refine zAa rfl _ _ 22 rfl W1.heap.size 52 i0 _ 3 64 Tryz.underlying22 hi hz0 hz1 hz2 hzs (by decide) _ _ _ rfl HO.o _ _ _ rfl hsr HO2.o (by unfold maxLen;omega) (by omega) hsz ?_)
     intro v2 w2 hown2 hg2 hbq
     first|replace hown2:=zCk hown2 HL2.o|skip
     have HQ:Hid (Bw W1 w2):=HB2.o.grown hg2 hsz (fun k hk=>(HO.o.lt k hk).1)
     have HOW:Hid (OwnM w w2 W1.heap.size v2 (insAt l p ⟨e.pack,[],[]⟩)):=⟨_,hown2,by
      have e:insAt l p ⟨e.pack,[],[]⟩=l.take p++[⟨e.pack,[],[]⟩]++l.drop p:=by unfold insAt;rw [List.append_assoc];rfl
      rw [e,List.flatMap_append];exact ReadsL.append HRC.o HXX.o⟩
     clear hown2 hg2 hbq hsr hsz;go_wp2;go_ret2;exact zCw HE.o (HOW.o.reads (zA HBW.o HQ.o)) (zA HBW.o HQ.o)
set_option maxRecDepth 100000 in
set_option maxHeartbeats 8000000 in
theorem yAk (l:List OMod) (a:Option Addr) (c:Nat) (e:OEdit) (ao:Option Addr) (co:Nat) (af:Option Addr) (cf n:Nat) (w:World) (hl:Reads w [] (modsT l) (.slice a l.length c)) (hs:Srt l) (hz:SzL n l) (hn:n≤40000) (hk:e.kind=2) :
  Calls Tryz.prog 36 #[.slice a l.length c,editV e ao co af cf] w fun r w'=>OneRef w l e r w':=by
 obtain ⟨_,_,hva,hc1,hc2⟩:=zDc hl
 cases hva
 have hll:l.length≤40000:=Nat.le_trans hz.len hn;obtain ⟨E,hE⟩:∃E,E=w.heap.size:=⟨_,rfl⟩;obtain ⟨W0,hW0⟩:∃W0,W0=w.alloc (.cells #[.int .i64 e.kind,.string e.pack,.string e.text,.slice ao e.old.length co,.slice af e.fresh.length cf] 39):=⟨_,rfl⟩;have hb0:Bw w W0:=by rw [hW0];exact zAb _ _
 have hx:CBox W0 E 39 #[.int .i64 e.kind,.string e.pack,.string e.text,.slice ao e.old.length co,.slice af e.fresh.length cf]:=by rw [hW0,hE];exact CBox.new _ _ _
 have HL:=lH hl;have HS:=lH hs;have HZ:=lH hz;have HN:=lH hn;have HB0:=lH hb0;have HX:=lH hx;have HEW:Hid (w.heap.size≤E):=by show _≤_;omega
 have HC:=lH (zL l a c e.pack W0 (hl.below hb0) hs.labels (by omega));have e0:=HX.o.cell (i:=0) (v:=.int .i64 e.kind) rfl;have e1:=HX.o.cell (i:=1) (v:=.string e.pack) rfl;have e2:=HX.o.cell (i:=2) (v:=.string e.text) rfl;have e3:=HX.o.cell (i:=3) (v:=.slice ao e.old.length co) rfl;have e4:=HX.o.cell (i:=4) (v:=.slice af e.fresh.length cf) rfl;have el:=HX.o.lt;have HKK:=lH hk;rw [hk] at e0;clear hk;clear hl hs hz hb0 hx;unfold editV
 go_enter Tryz.func36,Tryz.ntmps36
 go_upto_region 1 with (fail)
 rw [←hW0,←hE];clear hW0 hE;go_wp2_with (fail)
 refine HC.o.mono ?_;rintro r W1 ⟨rfl,hb1⟩;have HB1:=lH hb1;clear e0 e1 e2 e3 e4 el HC;have e0:=(HX.o.below hb1).cell (i:=0) (v:=.int .i64 e.kind) rfl;have e1:=(HX.o.below hb1).cell (i:=1) (v:=.string e.pack) rfl;have e2:=(HX.o.below hb1).cell (i:=2) (v:=.string e.text) rfl;have e3:=(HX.o.below hb1).cell (i:=3) (v:=.slice ao e.old.length co) rfl;have e4:=(HX.o.below hb1).cell (i:=4) (v:=.slice af e.fresh.length cf) rfl;have el:=(HX.o.below hb1).lt;clear hb1;have HBW:=lH (zA HB0.o HB1.o)
 rcases zAu zGj HS.o.labels e.pack with ⟨m,H⟩|H
 rotate_left
 ·have HE:Hid (oneL l e=(l,8)):=by show _=_;unfold oneL;rw [H.look];simp [HKK.o]
  rw [H.look];simp only [Option.isSome_none]
  clear H;generalize plc ltB OMod.label l e.pack=p at *;rw [HKK.o] at e0;go_wp2;go_ret2;exact zCw HE.o (HL.o.below HBW.o) HBW.o
 have HE:Hid (oneL l e=if m.uses=[]∧m.decls=[] then (delAt l (plc ltB OMod.label l e.pack),0) else (l,17)):=by show _=_;unfold oneL;rw [H.look];simp [HKK.o]
 have hpl:=H.le;have hpm:=H.elt;rw [H.look];simp only [Option.isSome_some]
 clear H;generalize plc ltB OMod.label l e.pack=p at *;obtain ⟨b,o,au,cu,ad,cd,rfl,hbl,x0',x1',x2',q1,q2,hru,q3,q4,hrd⟩:=zBh HL.o hpm;have HSM:=lH (HZ.o.mods m (List.mem_of_getElem? hpm));have HMM:=lH (HS.o.mods m (List.mem_of_getElem? hpm));have HBL:=lH hbl;have HX0:=lH x0';have HX1:=lH x1';have HX2:=lH x2';obtain ⟨A,C0,hA,-,hpre,-⟩:=zHr HL.o p;obtain ⟨A0,CC,-,hC,-,hsuf⟩:=zHr HL.o (p+1);have hrow:=(hpre (by omega)).below (zA HBW.o (zAb W1 (.cells #[] 52)))
 have HSUF:Hid (∀W,Bw w W→∀a',(∀b' o',p+1<l.length→(some ⟨b,o,none⟩:Option Addr)=some ⟨b',o',none⟩→a'=some ⟨b',o'+(p+1) * 3,none⟩)→IsRow W 3 (.slice a' (l.length - (p+1)) (c - (p+1))) (l.length - (p+1)) CC):=fun W hW a' ha=>(hsuf a' (by omega) ha).below hW;have HRA:=lH hA;have HRC:=lH hC;have HO1:=lH (zCs hA);have HO2:=lH (zCs hC);obtain ⟨i0,z,hi,hz0,hzs,hz1,hz2⟩:=zAn zFd;have hpc:(p:Int)≤(c:Int):=by omega
 have hpi:(p:Int)<(l.length:Int):=by omega
 have hpi':(p:Int)≤(l.length:Int):=by omega
 have hw2:((p:Int)).toNat=p:=by omega
 have hw3:(0:Int)≤(p:Int):=by omega
 have hN0:(W1.alloc (.cells #[] 52)).ownsRow W1.heap.size 52 3 (.slice (some ⟨W1.heap.size,0,none⟩) 0 0) 0 []:=World.ownsRow_made _ #[] 0 (Nat.le_refl _) (Nat.zero_le _) rfl;have hq5:=zAb W1 (.cells #[] 52);clear hA hC hpre hsuf x0' x1' x2' hbl hpm q1 q2 q3 q4;rw [HKK.o] at e0;go_wp2_with (at_builtin;refine zAa rfl _ _ 22 rfl W1.heap.size 52 i0 _ 3 64 Tryz.underlying22 hi hz0 hz1 hz2 hzs (by decide) _ _ _ rfl hN0 _ _ _ rfl hrow HO1.o (by unfold maxLen;omega) (by omega) (by simp) ?_)
 intro v4 W4 hown4 hg4 hbq
 (try simp only [Nat.zero_add,List.nil_append] at hown4)
 obtain ⟨va4,vc4,rfl⟩:=zAe hown4;have HQ4:Hid (Bw W1 W4):=hq5.grown hg4 (by simp) (fun k hk=>by cases hk;exact Nat.le_refl _);have HO4:=lH hown4;have HB4:=lH (zA HB1.o HQ4.o);have HBW4:=lH (zA HB0.o HB4.o);clear e0 e1 e2 e3 e4 el hown4 hg4 hbq hN0 hq5 hrow;have e0:=(HX.o.below HB4.o).cell (i:=0) (v:=.int .i64 e.kind) rfl;have e1:=(HX.o.below HB4.o).cell (i:=1) (v:=.string e.pack) rfl;have e2:=(HX.o.below HB4.o).cell (i:=2) (v:=.string e.text) rfl
 have e3:=(HX.o.below HB4.o).cell (i:=3) (v:=.slice ao e.old.length co) rfl;have e4:=(HX.o.below HB4.o).cell (i:=4) (v:=.slice af e.fresh.length cf) rfl;have el:=(HX.o.below HB4.o).lt;have y0:=(HBW4.o.cell (p:=⟨b,_,none⟩) HBL.o).trans HX0.o;have y1:=(HBW4.o.cell (p:=⟨b,_,none⟩) HBL.o).trans HX1.o;have y2:=(HBW4.o.cell (p:=⟨b,_,none⟩) HBL.o).trans HX2.o;have gl:b<W4.heap.size:=Nat.lt_of_lt_of_le HBL.o HBW4.o.size;obtain ⟨C,hC⟩:∃C,C=W4.heap.size:=⟨_,rfl⟩
 obtain ⟨W5,hW5⟩:∃W5,W5=W4.alloc (.cells (mA m au cu ad cd) 52):=⟨_,rfl⟩;have HQ5:Hid (Bw W4 W5):=by show RowKit.Below _ _ _;rw [hW5];exact zAb _ _
 have HC5:Hid (CBox W5 C 52 (mA m au cu ad cd)):=by show CBox _ _ _ _;rw [hW5,hC];exact CBox.new _ _ _
 have HB5:=lH (zA HB4.o HQ5.o);have HBW5:=lH (zA HB0.o HB5.o);have HNC:Hid (W4.heap.size≤C):=by show _≤_;omega
 have HNE:Hid (E<C):=by show _<_;have:=(HX.o.below HB4.o).lt;omega
 have HVA:Hid (∀b,(Value.slice va4 p vc4).ownBlock=some b→b∉[C]):=fun b hb c=>by have:=(HO4.o.lt b hb).2;simp at c;omega
 rw [HKK.o] at e0;go_upto_region 11 with (fail)
 rw [←hW5,←hC];clear hW5 hC y0 y1 y2 gl;clear e0 e1 e2 e3 e4 el;have e0:=(HX.o.below HB5.o).cell (i:=0) (v:=.int .i64 e.kind) rfl;have e1:=(HX.o.below HB5.o).cell (i:=1) (v:=.string e.pack) rfl;have e2:=(HX.o.below HB5.o).cell (i:=2) (v:=.string e.text) rfl;have e3:=(HX.o.below HB5.o).cell (i:=3) (v:=.slice ao e.old.length co) rfl;have e4:=(HX.o.below HB5.o).cell (i:=4) (v:=.slice af e.fresh.length cf) rfl;have el:=(HX.o.below HB5.o).lt;rw [HKK.o] at e0;have c0:=HC5.o.cell (i:=0) (v:=.string m.label) rfl
 have cl:=HC5.o.lt;have hp1:(p:Int)+1≤(l.length:Int):=by omega
 have hp2:(p:Int)+1≤(c:Int):=by omega
 have hp3:p+1≤l.length:=by omega
 have hw4:IntKind.i64.wrap ((p:Int)+1)=(p:Int)+1:=IntWalk.i64_in _ (by omega);have hw5:((p:Int)+1).toNat=p+1:=by omega
 have hw6:(0:Int)≤(p:Int)+1:=by omega
 by_cases hne:m.uses=[]∧m.decls=[]
 ·have HE2:Hid (oneL l e=(delAt l p,0)):=by show _=_;rw [HE.o,if_pos hne]
  have c1:W5.cell? ⟨C,1,none⟩=some (.slice au 0 cu):=by have:=HC5.o.cell (i:=1) (v:=.slice au m.uses.length cu) rfl;rw [hne.1] at this;exact this
  have c2:W5.cell? ⟨C,2,none⟩=some (.slice ad 0 cd):=by have:=HC5.o.cell (i:=2) (v:=.slice ad m.decls.length cd) rfl;rw [hne.2] at this;exact this
  clear hne HE;have hown:=zAg HO4.o HQ5.o;have HQ6:Hid (Bw W1 W5):=HQ4.o.trans (HQ5.o.mono HQ4.o.size);have hsz:=HQ6.o.size;have HOWN:=lH hown
  rcases Nat.eq_or_lt_of_le (show p+1≤c by omega) with hcp|hcp
  ·subst hcp
   have hsr:=HSUF.o W5 HBW5.o (some ⟨b,o,none⟩) (fun b o h _=>by omega);have h00:l.length - (p+1)=0:=by omega
   rw [Nat.sub_self,h00] at hsr;clear h00;have HL2:Hid (p+0=(delAt l p).length):=by show _=_;rw [zDw _ hpl];omega
   go_wp2_with (at_builtin;refine zAa rfl _ _ 22 rfl W1.heap.size 52 i0 _ 3 64 Tryz.underlying22 hi hz0 hz1 hz2 hzs (by decide) _ _ _ rfl hown _ _ _ rfl hsr HO2.o (by unfold maxLen;omega) (by omega) hsz ?_)
   intro v7 W7 hown7 hg7 hbq
   first|replace hown7:=zCk hown7 HL2.o|skip
   have HQ7:Hid (Bw W1 W7):=HQ6.o.grown hg7 hsz (fun k hk=>(hown.lt k hk).1);have HOW:Hid (OwnM w W7 W1.heap.size v7 (delAt l p)):=⟨_,hown7,by have e:delAt l p=l.take p++l.drop (p+1):=rfl;rw [e,List.flatMap_append];exact ReadsL.append HRC.o HRA.o⟩;have HBX:=lH (zA HBW.o HQ7.o);clear hown7 hg7 hbq hsr hsz hown;go_wp2;go_ret2;exact zCw HE2.o (HOW.o.reads HBX.o) HBX.o
  ·have hsr:=HSUF.o W5 HBW5.o (some ⟨b,o+(p+1) * 3,none⟩) (fun b' o' _ h=>by injection h with h;injection h with h1 h2;rw [h1,h2])
   have hcp2:¬c=p+1:=by omega
   have HL2:Hid (p+(l.length - (p+1))=(delAt l p).length):=by show _=_;rw [zDw _ hpl];omega
   go_wp2_with (at_builtin;refine zAa rfl _ _ 22 rfl W1.heap.size 52 i0 _ 3 64 Tryz.underlying22 hi hz0 hz1 hz2 hzs (by decide) _ _ _ rfl hown _ _ _ rfl hsr HO2.o (by unfold maxLen;omega) (by omega) hsz ?_)
   intro v7 W7 hown7 hg7 hbq
   first|replace hown7:=zCk hown7 HL2.o|skip
   have HQ7:Hid (Bw W1 W7):=HQ6.o.grown hg7 hsz (fun k hk=>(hown.lt k hk).1);have HOW:Hid (OwnM w W7 W1.heap.size v7 (delAt l p)):=⟨_,hown7,by have e:delAt l p=l.take p++l.drop (p+1):=rfl;rw [e,List.flatMap_append];exact ReadsL.append HRC.o HRA.o⟩;have HBX:=lH (zA HBW.o HQ7.o);clear hown7 hg7 hbq hsr hsz hown;go_wp2;go_ret2;exact zCw HE2.o (HOW.o.reads HBX.o) HBX.o
 ·have HE2:Hid (oneL l e=(l,17)):=by show _=_;rw [HE.o,if_neg hne]
  have c1:=HC5.o.cell (i:=1) (v:=.slice au m.uses.length cu) rfl;have c2:=HC5.o.cell (i:=2) (v:=.slice ad m.decls.length cd) rfl;have hul:=HSM.o.ulen;have hdl:=HSM.o.dlen;have hnn:=HN.o
  have hpos:0<m.uses.length+m.decls.length:=by
   rcases Nat.eq_zero_or_pos (m.uses.length+m.decls.length) with h|h
   ·exact absurd ⟨List.eq_nil_of_length_eq_zero (by omega),List.eq_nil_of_length_eq_zero (by omega)⟩ hne
   ·exact h
  have hws:IntKind.i64.wrap ((m.uses.length:Int)+(m.decls.length:Int))=(m.uses.length:Int)+(m.decls.length:Int):=IntWalk.i64_in _ (by omega);have hpos2:decide ((0:Int)<(m.uses.length:Int)+(m.decls.length:Int))=true:=decide_eq_true (by omega);have hpos3:(0:Int)<(m.uses.length:Int)+(m.decls.length:Int):=by omega
  clear hne HE;go_wp2;go_ret2;exact zCw HE2.o (HL.o.below HBW5.o) HBW5.o
end Go.Proofs.YtfkjfdbjhlmjcaaGreatDoor

