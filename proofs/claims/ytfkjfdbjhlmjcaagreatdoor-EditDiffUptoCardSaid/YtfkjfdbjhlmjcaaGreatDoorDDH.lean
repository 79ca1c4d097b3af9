/- Reference 34: -/
import Derived.Test.YtfkjfdbjhlmjcaaGreatDoorDW1
set_option maxRecDepth 100000
set_option maxHeartbeats 16000000
namespace Go.Proofs.YtfkjfdbjhlmjcaaGreatDoor
open Go.RowKit Go.Shelf
attribute [local go_sem] Oper.semAt_some
theorem OwnE.lowH {w0 w:World} {B B':Nat} {v:Value} {l:List OEdit} (h:OwnE w0 w B v l) (hb:B'≤B):OwnE w0 w B' v l:=by
 obtain ⟨xs,⟨h1,h2⟩,h3⟩:=h;refine ⟨xs,⟨h1,?_⟩,h3⟩
 rcases h2 with h2|⟨g,cap,cur,h4,h5,h6⟩
 ·exact .inl h2
 ·exact .inr ⟨g,cap,cur,h4,Nat.le_trans hb h5,h6⟩
theorem zTv (k:Int) (p q:ByteArray) (us os:List ByteArray) (ua oa da db:Option Addr) (uc oc dn dc en ec:Nat) (w:World) (hu:Strs w (.slice ua us.length uc) us) (ho:Strs w (.slice oa os.length oc) os) (hn:us.length≤40000) (hon:os.length≤40000) :
  Calls Tryz.prog 44 #[.agg #[.string p,.slice ua us.length uc,.slice da dn dc],.agg #[.string q,.slice oa os.length oc,.slice db en ec],.int .i64 k] w fun r w'=>∃v,r=.returned v∧OwnE w w' w.heap.size v (useE k p us os)∧Bw w w':=by
 obtain ⟨i0,z,hi,hz0,hzs,hz1,hz2⟩:=zAn zDg;obtain ⟨_,_,e,hlc,hcm,hcell⟩:=hu.shape
 cases e
 obtain ⟨g1,g2,g3⟩:=zBt w 52 #[.string p,.slice ua us.length uc,.slice da dn dc] #[.string q,.slice oa os.length oc,.slice db en ec];have HC:=lH hcell;have HO:=lH ho;have HE:Hid (useE k p us os=([]:List OEdit)++useE k p (us.drop 0) os):=rfl;obtain ⟨B,hB⟩:∃B,B=w.heap.size:=⟨_,rfl⟩;obtain ⟨C,hC⟩:∃C,C=B+1:=⟨_,rfl⟩;obtain ⟨W0,hW0⟩:∃W0,W0=(w.alloc (.cells #[.string p,.slice ua us.length uc,.slice da dn dc] 52)).alloc (.cells #[.string q,.slice oa os.length oc,.slice db en ec] 52):=⟨_,rfl⟩;rw [←hW0,←hB] at g1
 rw [←hW0,←hB,←hC] at g2;rw [←hW0] at g3;have G1:=lH g1;have G2:=lH g2;have HB0:=lH g3;clear hu ho hcell g1 g2 g3;generalize useE k p us os=T at *
 go_enter Tryz.func44,Tryz.ntmps44
 go_upto_region 1 with (fail)
 rw [←hW0,←hB,←hC];clear hW0 hB hC;go_wp2
 go_loopw [8,7] (fun iv ov wr=>∃(i:Nat) (out:List OEdit),i≤us.length∧iv=.int .i64 i∧Hid (T=out++useE k p (us.drop i) os)∧Hid (OwnE w wr W0.heap.size ov out∧out.length≤i)∧Hid (Bw W0 wr)) (fun iv _ _=>us.length - (intOf iv).toNat)
 case atStart=>exact ⟨0,[],Nat.zero_le _,rfl,HE,⟨⟨[],World.ownsRow_made W0 #[] 0 (Nat.le_refl _) (Nat.zero_le _) rfl,ReadsL.nil _ _⟩,Nat.zero_le _⟩,zAb _ _⟩
 case round=>
  obtain ⟨i,out,hil,rfl,HI,HW,HB⟩:=hrel;obtain ⟨sa,sc,rfl⟩:=HW.out.1.val;have b1:=(G1.out.below HB.out).cell (i:=1) (v:=.slice ua us.length uc) rfl;have bl:=(G1.out.below HB.out).lt
  by_cases hiu:i<us.length
  ·have hd:decide ((i:Int)<(us.length:Int))=true:=decide_eq_true (by omega)
   have hir:(i:Int)<(us.length:Int):=by omega
   obtain ⟨u,hui⟩:∃u,us[i]?=some u:=⟨_,List.getElem?_eq_getElem hiu⟩;obtain ⟨b,o,rfl,hbl,hc⟩:=HC.out i hiu;have hbw:=zA HB0.out HB.out
   have ck:wr.cell? ⟨b,o+i,none⟩=some (.string u):=by
    have:=(hbw.cell (p:=⟨b,o+i,none⟩) hbl).trans (hc i hiu);rwa [show us.getD i ByteArray.empty=u from zDr hui] at this
   have hbr:b<wr.heap.size:=Nat.lt_of_lt_of_le hbl hbw.size;have HN:=lH (HI.out.trans (congrArg (out++·) (zYl (k:=k) (p:=p) (os:=os) hui)));have hdr:Bw wr wr.drew:=(Mod.refl [] wr).drew.below;have HDR:=lH hdr
   have SW:Hid (∀W:World,Bw wr W→(W.cell? ⟨B,0,none⟩=some (.string p)∧W.cell? ⟨B,1,none⟩=some (.slice (some ⟨b,o,none⟩) us.length uc)∧W.cell? ⟨C,1,none⟩=some (.slice oa os.length oc)∧W.cell? ⟨b,o+i,none⟩=some (.string u)∧B<W.heap.size∧C<W.heap.size∧b<W.heap.size)):=fun W hW=>⟨(G1.out.below (zA HB.out hW)).cell (i:=0) (v:=.string p) rfl,(G1.out.below (zA HB.out hW)).cell (i:=1) (v:=.slice (some ⟨b,o,none⟩) us.length uc) rfl,(G2.out.below (zA HB.out hW)).cell (i:=1) (v:=.slice oa os.length oc) rfl,(hW.cell (p:=⟨b,_,none⟩) hbr).trans ck,(G1.out.below (zA HB.out hW)).lt,(G2.out.below (zA HB.out hW)).lt,Nat.lt_of_lt_of_le hbr hW.size⟩
   have HS:=lH (zJp (.slice oa os.length oc) u os wr.drew (HO.out.below (zA hbw hdr)) hon);clear hc HI hui hbw hdr;go_upto_region 5 with (fail)
   clear b1 bl ck hbr;refine wp_region_noPanic (zAl (fun W:World=>W.cell? ⟨B,0,none⟩=some (.string p)∧W.cell? ⟨B,1,none⟩=some (.slice (some ⟨b,o,none⟩) us.length uc)∧W.cell? ⟨C,1,none⟩=some (.slice oa os.length oc)∧W.cell? ⟨b,o+i,none⟩=some (.string u)∧B<W.heap.size∧C<W.heap.size∧b<W.heap.size) 7 [(true,0),(true,1),(true,2),(true,3),(true,4),(true,5),(true,6)] zAp (by kernel_rfl) (fun _ _ _ _ _ h=>h) (SW.out _ HDR.out) ?_)
   iterate 7 (refine zAj (v:=?_) rfl (by rfl) ?_ ?_;rotate_left;(focus (intro wq hSw;(try dsimp only at hSw);go_simp;(try rw [if_neg (by first|omega|(simp;omega))]);(try with_reducible rfl)));(try simp only [gA,gB,gC,Act.put,gD,gE,gF]))
   generalize wr.drew=wd at *;refine zAt ?_;generalize memS u os=m at *;go_wp2_with (fail)
   refine HS.out.mono ?_;rintro r w1 ⟨rfl,hw1⟩;subst hw1;have hsw:=(SW.out _ HDR.out)
   cases m with
   | true=>
    simp only [if_true] at HN
    have HO2:Hid (OwnE w wd W0.heap.size (.slice sa out.length sc) out∧out.length≤i+1):=⟨HW.out.1.below HDR.out,Nat.le_succ_of_le HW.out.2⟩;have HBX:=lH (zA HB.out HDR.out);clear HS HW hsw;go_wp2;refine NoPanic.normal ?_;go_wp2;go_roundw
    case rel=>exact ⟨i+1,out,by omega,by go_num,HN,HO2,HBX⟩
    case measure=>simp [intOf];omega
   | false=>
    simp only [Bool.false_eq_true,if_false] at HN
    rw [zGp] at HN;have HOW:=lH (HW.out.1.below HDR.out);have HLN:=lH HW.out.2;have HBX:=lH (zA HB.out HDR.out);have SW1:Hid (∀W:World,Bw wd W→(W.cell? ⟨B,0,none⟩=some (.string p)∧W.cell? ⟨B,1,none⟩=some (.slice (some ⟨b,o,none⟩) us.length uc)∧W.cell? ⟨C,1,none⟩=some (.slice oa os.length oc)∧W.cell? ⟨b,o+i,none⟩=some (.string u)∧B<W.heap.size∧C<W.heap.size∧b<W.heap.size)):=fun W hW=>SW.out W (zA HDR.out hW);clear HS HW hsw SW HB;go_wp2;refine NoPanic.normal ?_;go_upto_region 6 with (fail)
    have hdr:Bw wd wd.drew:=(Mod.refl [] wd).drew.below;have HDX:=lH hdr
    refine wp_region_noPanic (zAl (fun W:World=>W.cell? ⟨B,0,none⟩=some (.string p)∧W.cell? ⟨B,1,none⟩=some (.slice (some ⟨b,o,none⟩) us.length uc)∧W.cell? ⟨C,1,none⟩=some (.slice oa os.length oc)∧W.cell? ⟨b,o+i,none⟩=some (.string u)∧B<W.heap.size∧C<W.heap.size∧b<W.heap.size) 11 [(true,0),(true,1),(true,2),(true,3),(true,4),(true,5),(true,6),(true,7),(true,8),(true,9),(false,10)] zAp (by kernel_rfl) (fun _ _ _ _ _ h=>h) (SW1.out _ hdr) ?_);clear hdr
    iterate 10 (refine zAj (v:=?_) rfl (by rfl) ?_ ?_;rotate_left;(focus (intro wq hSw;(try dsimp only at hSw);go_simp;(try rw [if_neg (by first|omega|(simp;omega))]);(try with_reducible rfl)));(try simp only [gA,gB,gC,Act.put,gD,gE,gF]))
    generalize wd.drew=we at *
    (refine zAk rfl (by rfl) (fun K hK=>?_);go_simp)
    obtain ⟨w3,hw3⟩:∃w3,w3=we.alloc (.cells #[.int .i64 k,.string p,.string u,.slice none 0 0,.slice none 0 0] 39):=⟨_,rfl⟩;have hA3:=zAb we (.cells #[.int .i64 k,.string p,.string u,.slice none 0 0,.slice none 0 0] 39);have hR3:=zAg (zAw we we.heap.size (Nat.le_refl _) 39 #[.int .i64 k,.string p,.string u,.slice none 0 0,.slice none 0 0] 5 1 rfl (by omega));rw [←hw3] at hA3 hR3 ⊢;clear hw3;refine hK.out _ _ (SW1.out _ (zA HDX.out hA3)) ?_;clear hK K
    (try simp only [gA,gB,gC,Act.put,gD,gE,gF])
    refine zAt ?_;obtain ⟨xs,hown,hxs⟩:=HOW.out;have hln:=HLN.out;have HXS:=lH hxs;have HR3:=lH hR3;have HO3:=lH (zAe (zAe hown HDX.out) hA3);have HB3:=lH (zA (zA HBX.out HDX.out) hA3);have HW3:=lH (zA HB0.out HB3.out);have hsz3:=HB3.out.size;clear hA3 hR3 hown hxs HOW HBX HDX SW1;simp only [List.drop_succ_cons,List.drop_zero]
    refine zAa rfl _ _ 23 rfl W0.heap.size 39 i0 _ 5 88 Tryz.underlying23 hi hz0 hz1 hz2 hzs (by decide) _ _ _ rfl HO3.out _ _ _ rfl HR3.out (by intro u hu;simp at hu;rcases hu with rfl|rfl|rfl|rfl|rfl<;>rfl) (by unfold maxLen;omega) (by omega) hsz3 ?_;intro v5 w5 hown5 hg5 hbk5;have HB5:Hid (Bw W0 w5):=HB3.out.grown hg5 hsz3 (fun x hx=>(HO3.out.lt x hx).1)
    have HO5:Hid (OwnE w w5 W0.heap.size v5 (out++[⟨k,p,u,[],[]⟩])∧(out++[(⟨k,p,u,[],[]⟩:OEdit)]).length≤i+1):=⟨OwnE.snoc HXS.out (zYm w k p u) hown5,by rw [List.length_append];simp;omega⟩;clear hown5 hg5 hbk5;go_wp2;refine NoPanic.normal ?_;go_wp2;go_roundw
    case rel=>exact ⟨i+1,_,by omega,by go_num,HN,HO5,HB5⟩
    case measure=>simp [intOf];omega
  ·have hd:decide ((i:Int)<(us.length:Int))=false:=decide_eq_false (by omega)
   have HF:Hid (T=out):=by show _=_;rw [HI.out,List.drop_eq_nil_of_le (show us.length≤i by omega)];exact List.append_nil _
   have hO:=HW.out.1;have HO2:Hid (OwnE w wr w.heap.size (.slice sa out.length sc) T):=by show OwnE _ _ _ _ _;rw [HF.out];exact hO.lowH HB0.out.size
   clear hO HI HW;go_wp2;go_ret;exact ⟨_,rfl,HO2.out,zA HB0.out HB.out⟩
def FindPost (w:World) (X:List Nat) (l:List OMod) (s:ByteArray) (r:Ending) (w':World):Prop:=
  ∃u d,r=.returned (.agg #[.string s,u,d])∧Reads w' X (strsT (usesO (look ltB OMod.label l s))) u∧Reads w' X (declsT (declsO (look ltB OMod.label l s))) d∧Below w.heap.size w w'
theorem zGv (X:List Nat) (l:List OMod) (a:Option Addr) (c:Nat) (s:ByteArray) (w:World) (hl:Reads w X (modsT l) (.slice a l.length c)) (ha:Asc ltB OMod.label l) (hn:l.length≤1000000) :
  Calls Tryz.prog 45 #[.slice a l.length c,.string s] w fun r w'=>FindPost w X l s r w':=by
 obtain ⟨_,_,hva,hc1,hc2⟩:=zEx hl
 cases hva
 obtain ⟨B,hB⟩:∃B,B=w.heap.size:=⟨_,rfl⟩;obtain ⟨W0,hW0⟩:∃W0,W0=w.alloc (.cells mZ 52):=⟨_,rfl⟩;have hb0:Bw w W0:=by rw [hW0];exact zAb _ _
 have hx:CBox W0 B 52 mZ:=by rw [hW0,hB];exact CBox.new _ _ _
 have HBW:Hid (w.heap.size≤B):=by show _≤_;omega
 have HL:=lH hl;have HA:=lH ha;have HB0:=lH hb0;have HX:=lH hx;have HC:=lH (zLu l a c s W0 ((hl.fewer (Y:=[]) (by simp)).below hb0) ha hn);clear hl ha hb0 hx
 go_enter Tryz.func45,Tryz.ntmps45
 go_upto_region 1 with (fail)
 rw [←hW0,←hB];clear hW0 hB;go_wp2_with (fail)
 refine HC.out.mono ?_;rintro r W1 ⟨rfl,hb1⟩;have HB1:=lH (zA HB0.out hb1);have HX1:=lH (HX.out.below hb1);clear hb1 HC HX;obtain ⟨o0,o1,o2,ol⟩:=zFh HX1.out;obtain ⟨of0,of1,of2⟩:=yCm HX1.out
 rcases zBf zD HA.out s with ⟨m,H⟩|H
 ·have hpl:=H.le
  have hpm:=H.elt;have hky:=H.ky;have HLK:=lH H.look;rw [H.look];simp only [Option.isSome_some]
  clear H;generalize plc ltB OMod.label l s=p at *;obtain ⟨b,o,au,cu,ad,cd,rfl,hbl,x0',x1',x2',-,-,hru,-,-,hrd⟩:=zBb HL.out hpm;rw [hky] at x0';have hbr:b<W1.heap.size:=Nat.lt_of_lt_of_le hbl HB1.out.size;have x0:=(HB1.out.cell (p:=⟨b,_,none⟩) hbl).trans x0';have x1:=(HB1.out.cell (p:=⟨b,_,none⟩) hbl).trans x1';have x2:=(HB1.out.cell (p:=⟨b,_,none⟩) hbl).trans x2';have hpi:(p:Int)<(l.length:Int):=by omega
  clear hpm hky x0' x1' x2' hbl;go_wp2;have hP:=yEm HX1.out (.string s) (.slice au m.uses.length cu) (.slice ad m.decls.length cd);obtain ⟨r0,r1,r2,-⟩:=zFh hP;have hbw:=HB1.out.trans ((yEn W1 B (.string s) (.slice au m.uses.length cu) (.slice ad m.decls.length cd)).upto HB1.out.size (fun k hk=>by have:=HBW.out;simp at hk;omega));refine bodyPost_ret (by simp [results,Tryz.results45,go_sem,r0,r1,r2];try rfl) rfl ?_;exact ⟨_,_,rfl,by rw [HLK.out];exact hru.out.below hbw,by rw [HLK.out];exact hrd.out.below hbw,hbw⟩
 ·have HLK:=lH H.look
  rw [H.look];simp only [Option.isSome_none]
  clear H;generalize plc ltB OMod.label l s=p at *;go_wp2;have hP:=yEm HX1.out (.string s) (.slice none 0 0) (.slice none 0 0);obtain ⟨r0,r1,r2,-⟩:=zFh hP;have hbw:=HB1.out.trans ((yEn W1 B (.string s) (.slice none 0 0) (.slice none 0 0)).upto HB1.out.size (fun k hk=>by have:=HBW.out;simp at hk;omega));refine bodyPost_ret (by simp [results,Tryz.results45,go_sem,r0,r1,r2];try rfl) rfl ?_;exact ⟨_,_,rfl,by rw [HLK.out];exact Reads.nilRow _ _ _ _,by rw [HLK.out];exact Reads.nilRow _ _ _ _,hbw⟩
theorem yBz {l:List OEdit} {k:Nat} {e:OEdit} (h:l[k]?=some e):((l.drop k).map invE).reverse=((l.drop (k+1)).map invE).reverse++[invE e]:=by
 obtain ⟨hi,q⟩:=List.getElem?_eq_some_iff.1 h;rw [List.drop_eq_getElem_cons hi,q,List.map_cons,List.reverse_cons]
theorem yDt {k:Int} (h1:1≤k) (h6:k≤6):opp k=k - 1+2 * (k % 2):=by
 have:k=1∨k=2∨k=3∨k=4∨k=5∨k=6:=by omega
 rcases this with rfl|rfl|rfl|rfl|rfl|rfl<;>rfl
theorem yDu {k:Int} (h:¬(1≤k∧k≤6)):opp k=k:=by unfold opp;rw [if_neg (by omega),if_neg (by omega)]
theorem zOr (l:List OEdit) (a:Option Addr) (c:Nat) (w:World) (hl:Reads w [] (editsT l) (.slice a l.length c)) (hn:l.length≤1000000) :
  Calls Tryz.prog 18 #[.slice a l.length c] w fun r w'=>∃v,r=.returned v∧Reads w' [] (editsT (invL l)) v∧Bw w w':=by
 obtain ⟨i0,z,hi0,hz0,hzs,hz1,hz2⟩:=zAn zDg;obtain ⟨_,_,hva,hc1,hc2⟩:=zEu hl
 cases hva
 have HL:=lH hl;have hwl:IntKind.i64.wrap ((l.length:Int) - 1)=(l.length:Int) - 1:=IntWalk.i64_in _ (by omega);clear hl
 go_enter Tryz.func18,Tryz.ntmps18
 go_wp2
 go_loopw [4,3] (fun iv ov wr=>∃k:Nat,k≤l.length∧iv=.int .i64 ((k:Int) - 1)∧Hid (OwnE w wr w.heap.size ov ((l.drop k).map invE).reverse)∧Hid (Bw w wr)) (fun iv _ _=>(intOf iv+1).toNat)
 case atStart=>exact ⟨l.length,Nat.le_refl _,rfl,by show OwnE _ _ _ _ _;rw [List.drop_length];exact OwnE.nilA w,zAb _ _⟩
 case round=>
  obtain ⟨k,hkl,rfl,HW,HB⟩:=hrel;clear hwl
  cases k with
  | zero=>
   have hiv:(((0:Nat):Int) - 1)=-1:=rfl;rw [hiv];obtain ⟨oa,oc,rfl⟩:=HW.out.val;have HR:=lH (HW.out.reads HB.out);rw [List.drop_zero] at HR;have HR2:Hid (Reads wr [] (editsT (invL l)) _):=HR.out;clear HW HR hiv;go_wp2;go_ret;exact ⟨_,rfl,HR2.out,HB.out⟩
  | succ k=>
   have hiv:(((k+1:Nat):Int) - 1)=(k:Int):=by omega
   rw [hiv];have hki:k<l.length:=by omega
   obtain ⟨e,hke⟩:∃e,l[k]?=some e:=⟨_,List.getElem?_eq_getElem hki⟩;have HSN:=lH (yBz hke);have hou:((l.drop (k+1)).map invE).reverse.length≤1000000:=by rw [List.length_reverse,List.length_map,List.length_drop];omega
   generalize ((l.drop (k+1)).map invE).reverse=out at *;obtain ⟨oa,oc,rfl⟩:=HW.out.val;obtain ⟨b,q,ao,co,af,cf,rfl,hbl,x0',x1',x2',x3',x4',HED⟩:=zDw HL.out hke;have hbr:b<wr.heap.size:=Nat.lt_of_lt_of_le hbl HB.out.size;have x0:=(HB.out.cell (p:=⟨b,_,none⟩) hbl).trans x0';have x1:=(HB.out.cell (p:=⟨b,_,none⟩) hbl).trans x1';have x2:=(HB.out.cell (p:=⟨b,_,none⟩) hbl).trans x2';have x3:=(HB.out.cell (p:=⟨b,_,none⟩) hbl).trans x3';have x4:=(HB.out.cell (p:=⟨b,_,none⟩) hbl).trans x4'
   have hir:(k:Int)<(l.length:Int):=by omega
   have hd:decide ((0:Int)≤(k:Int))=true:=decide_eq_true (by omega);have hwk:IntKind.i64.wrap ((k:Int) - 1)=(k:Int) - 1:=IntWalk.i64_in _ (by omega);obtain ⟨D,hD⟩:∃D,D=wr.heap.size:=⟨_,rfl⟩;obtain ⟨W1,hW1⟩:∃W1,W1=wr.alloc (.cells #[.int .i64 e.kind,.string e.pack,.string e.text,.slice ao e.old.length co,.slice af e.fresh.length cf] 39):=⟨_,rfl⟩;have hq1:Bw wr W1:=by rw [hW1];exact zAb _ _
   have hx1:CBox W1 D 39 #[.int .i64 e.kind,.string e.pack,.string e.text,.slice ao e.old.length co,.slice af e.fresh.length cf]:=by rw [hW1,hD];exact CBox.new _ _ _
   have HQ1:=lH hq1;have HX1:=lH hx1;have HDL:Hid (wr.heap.size≤D):=by show _≤_;omega
   have HDN:Hid (∀g,(Value.slice oa out.length oc).ownBlock=some g→g∉[D]):=fun g hg c=>by have:=(HW.out.lt hg).2;simp at c;omega
   clear hiv hke x0' x1' x2' x3' x4' hbl hq1 hx1;go_upto_region 6 with (fail)
   rw [←hW1,←hD];clear hW1 hD x0 x1 x2 x3 x4 hbr;have y0:=HX1.out.cell (i:=0) (v:=.int .i64 e.kind) rfl;have y1:=HX1.out.cell (i:=1) (v:=.string e.pack) rfl;have y2:=HX1.out.cell (i:=2) (v:=.string e.text) rfl;have y3:=HX1.out.cell (i:=3) (v:=.slice ao e.old.length co) rfl;have y4:=HX1.out.cell (i:=4) (v:=.slice af e.fresh.length cf) rfl;have yf3:=HX1.out.frozen 3;have yf4:=HX1.out.frozen 4;have yl:=HX1.out.lt;go_upto_region 7 with (fail)
   obtain ⟨W2,hW2⟩:∃W2,W2=(W1.setCell ⟨D,3,none⟩ (.slice af e.fresh.length cf)).setCell ⟨D,4,none⟩ (.slice ao e.old.length co):=⟨_,rfl⟩;have HX2:Hid (CBox W2 D 39 #[.int .i64 e.kind,.string e.pack,.string e.text,.slice af e.fresh.length cf,.slice ao e.old.length co]):=by show CBox _ _ _ _;rw [hW2];exact (HX1.out.set 3 _).set 4 _
   have HM2:Hid (Mod [D] W1 W2):=by show Mod _ _ _;rw [hW2];exact ((Mod.refl [D] W1).setCell (p:=⟨D,3,none⟩) (by simp) _).setCell (p:=⟨D,4,none⟩) (by simp) _
   rw [←hW2];clear hW2;clear y0 y1 y2 y3 y4 yf3 yf4 yl
   by_cases h16:1≤e.kind∧e.kind≤6
   ·obtain ⟨h1,h6⟩:=h16
    have HOP:=lH (yDt h1 h6);have d1:decide ((1:Int)≤e.kind)=true:=decide_eq_true h1;have d6:decide (e.kind≤6)=true:=decide_eq_true h6;have y0:=HX2.out.cell (i:=0) (v:=.int .i64 e.kind) rfl;have y1:=HX2.out.cell (i:=1) (v:=.string e.pack) rfl;have y2:=HX2.out.cell (i:=2) (v:=.string e.text) rfl;have y3:=HX2.out.cell (i:=3) (v:=.slice af e.fresh.length cf) rfl;have y4:=HX2.out.cell (i:=4) (v:=.slice ao e.old.length co) rfl;have yf0:=HX2.out.frozen 0;have yl:=HX2.out.lt;go_upto_region 9 with (fail)
    obtain ⟨W3,hW3⟩:∃W3,W3=W2.setCell ⟨D,0,none⟩ (.int .i64 (e.kind - 1+2 * (e.kind % 2))):=⟨_,rfl⟩;have HX3:Hid (CBox W3 D 39 #[.int .i64 (opp e.kind),.string e.pack,.string e.text,.slice af e.fresh.length cf,.slice ao e.old.length co]):=by show CBox _ _ _ _;rw [hW3,HOP.out];exact HX2.out.set 0 _
    have HM3:Hid (Mod [D] W1 W3):=by show Mod _ _ _;rw [hW3];exact HM2.out.setCell (p:=⟨D,0,none⟩) (by simp) _
    rw [←hW3];clear hW3 d1 d6;clear y0 y1 y2 y3 y4 yf0 yl;have y0:=HX3.out.cell (i:=0) (v:=.int .i64 (opp e.kind)) rfl;have y1:=HX3.out.cell (i:=1) (v:=.string e.pack) rfl;have y2:=HX3.out.cell (i:=2) (v:=.string e.text) rfl;have y3:=HX3.out.cell (i:=3) (v:=.slice af e.fresh.length cf) rfl;have y4:=HX3.out.cell (i:=4) (v:=.slice ao e.old.length co) rfl;have yl:=HX3.out.lt;have hm:=HM3.out
    have hbw:Bw w W3:=HB.out.trans ((Mod.mono (X:=[]) (Mod.of HQ1.out) (fun k hk=>by cases hk):Mod [D] wr W1).trans hm |>.upto HB.out.size (fun g hg=>by have:=HDL.out;have:=HB.out.size;simp at hg;omega));obtain ⟨ys,hown,hys⟩:=HW.out;have hown1:=zAe (zCh (zAe hown HQ1.out) hm HDN.out) (zAb W3 (.cells #[.int .i64 (opp e.kind),.string e.pack,.string e.text,.slice af e.fresh.length cf,.slice ao e.old.length co] 39))
    have hrow:=zAg (zAw W3 W3.heap.size (Nat.le_refl _) 39 #[.int .i64 (opp e.kind),.string e.pack,.string e.text,.slice af e.fresh.length cf,.slice ao e.old.length co] 5 1 rfl (by omega));have HBA:=lH (zA hbw (zAb W3 (.cells #[.int .i64 (opp e.kind),.string e.pack,.string e.text,.slice af e.fresh.length cf,.slice ao e.old.length co] 39)));have hsz:=HBA.out.size;have HYS:=lH hys;have HOW:=lH hown1;have HRW:=lH hrow;clear hm hbw hown hys hown1 hrow
    go_wp2_with (at_builtin;refine zAa rfl _ _ 23 rfl w.heap.size 39 i0 _ 5 88 Tryz.underlying23 hi0 hz0 hz1 hz2 hzs (by decide) _ _ _ rfl HOW.out _ _ _ rfl HRW.out (by intro u hu;simp at hu;rcases hu with rfl|rfl|rfl|rfl|rfl<;>rfl) (by unfold maxLen;omega) (by omega) hsz ?_)
    intro v5 w5 hown5 hg5 hbk5;have HB5:Hid (Bw w w5):=HBA.out.grown hg5 hsz (fun x hx=>(HOW.out.lt x hx).1)
    have HO5:Hid (OwnE w w5 w.heap.size v5 ((l.drop k).map invE).reverse):=by
     show OwnE _ _ _ _ _
     rw [HSN.out];exact OwnE.snoc (e:=invE e) HYS.out ⟨HED.out.fresh,HED.out.old,HED.out.hf1,HED.out.hf2,HED.out.ho1,HED.out.ho2⟩ hown5
    clear hown5 hg5 hbk5 HOW HRW HYS HBA;go_wp2;go_roundw
    case rel=>exact ⟨k,by omega,by go_num,HO5,HB5⟩
    case measure=>first|(simp [intOf];omega)|simp [intOf]
   ·have HOP:=lH (yDu h16)
    by_cases h1:1≤e.kind
    ·have d1:decide ((1:Int)≤e.kind)=true:=decide_eq_true h1
     have d6:decide (e.kind≤6)=false:=decide_eq_false (by omega);clear h16 h1;have y0:=HX2.out.cell (i:=0) (v:=.int .i64 e.kind) rfl;have y1:=HX2.out.cell (i:=1) (v:=.string e.pack) rfl;have y2:=HX2.out.cell (i:=2) (v:=.string e.text) rfl;have y3:=HX2.out.cell (i:=3) (v:=.slice af e.fresh.length cf) rfl;have y4:=HX2.out.cell (i:=4) (v:=.slice ao e.old.length co) rfl;have yl:=HX2.out.lt;have hm:=HM2.out
     have hbw:Bw w W2:=HB.out.trans ((Mod.mono (X:=[]) (Mod.of HQ1.out) (fun k hk=>by cases hk):Mod [D] wr W1).trans hm |>.upto HB.out.size (fun g hg=>by have:=HDL.out;have:=HB.out.size;simp at hg;omega));obtain ⟨ys,hown,hys⟩:=HW.out;have hown1:=zAe (zCh (zAe hown HQ1.out) hm HDN.out) (zAb W2 (.cells #[.int .i64 e.kind,.string e.pack,.string e.text,.slice af e.fresh.length cf,.slice ao e.old.length co] 39))
     have hrow:=zAg (zAw W2 W2.heap.size (Nat.le_refl _) 39 #[.int .i64 e.kind,.string e.pack,.string e.text,.slice af e.fresh.length cf,.slice ao e.old.length co] 5 1 rfl (by omega));have HBA:=lH (zA hbw (zAb W2 (.cells #[.int .i64 e.kind,.string e.pack,.string e.text,.slice af e.fresh.length cf,.slice ao e.old.length co] 39)));have hsz:=HBA.out.size;have HYS:=lH hys;have HOW:=lH hown1;have HRW:=lH hrow;clear hm hbw hown hys hown1 hrow
     go_wp2_with (at_builtin;refine zAa rfl _ _ 23 rfl w.heap.size 39 i0 _ 5 88 Tryz.underlying23 hi0 hz0 hz1 hz2 hzs (by decide) _ _ _ rfl HOW.out _ _ _ rfl HRW.out (by intro u hu;simp at hu;rcases hu with rfl|rfl|rfl|rfl|rfl<;>rfl) (by unfold maxLen;omega) (by omega) hsz ?_)
     intro v5 w5 hown5 hg5 hbk5;have HB5:Hid (Bw w w5):=HBA.out.grown hg5 hsz (fun x hx=>(HOW.out.lt x hx).1)
     have HO5:Hid (OwnE w w5 w.heap.size v5 ((l.drop k).map invE).reverse):=by
      show OwnE _ _ _ _ _
      rw [HSN.out];exact OwnE.snoc (e:=invE e) HYS.out ⟨HED.out.fresh,HED.out.old,HED.out.hf1,HED.out.hf2,HED.out.ho1,HED.out.ho2⟩ (by rw [show (invE e).kind=e.kind from HOP.out];exact hown5)
     clear hown5 hg5 hbk5 HOW HRW HYS HBA;go_wp2;go_roundw
     case rel=>exact ⟨k,by omega,by go_num,HO5,HB5⟩
     case measure=>first|(simp [intOf];omega)|simp [intOf]
    ·have d1:decide ((1:Int)≤e.kind)=false:=decide_eq_false h1
     clear h16 h1;have y0:=HX2.out.cell (i:=0) (v:=.int .i64 e.kind) rfl;have y1:=HX2.out.cell (i:=1) (v:=.string e.pack) rfl;have y2:=HX2.out.cell (i:=2) (v:=.string e.text) rfl;have y3:=HX2.out.cell (i:=3) (v:=.slice af e.fresh.length cf) rfl;have y4:=HX2.out.cell (i:=4) (v:=.slice ao e.old.length co) rfl;have yl:=HX2.out.lt;have hm:=HM2.out
     have hbw:Bw w W2:=HB.out.trans ((Mod.mono (X:=[]) (Mod.of HQ1.out) (fun k hk=>by cases hk):Mod [D] wr W1).trans hm |>.upto HB.out.size (fun g hg=>by have:=HDL.out;have:=HB.out.size;simp at hg;omega));obtain ⟨ys,hown,hys⟩:=HW.out;have hown1:=zAe (zCh (zAe hown HQ1.out) hm HDN.out) (zAb W2 (.cells #[.int .i64 e.kind,.string e.pack,.string e.text,.slice af e.fresh.length cf,.slice ao e.old.length co] 39))
     have hrow:=zAg (zAw W2 W2.heap.size (Nat.le_refl _) 39 #[.int .i64 e.kind,.string e.pack,.string e.text,.slice af e.fresh.length cf,.slice ao e.old.length co] 5 1 rfl (by omega));have HBA:=lH (zA hbw (zAb W2 (.cells #[.int .i64 e.kind,.string e.pack,.string e.text,.slice af e.fresh.length cf,.slice ao e.old.length co] 39)));have hsz:=HBA.out.size;have HYS:=lH hys;have HOW:=lH hown1;have HRW:=lH hrow;clear hm hbw hown hys hown1 hrow
     go_wp2_with (at_builtin;refine zAa rfl _ _ 23 rfl w.heap.size 39 i0 _ 5 88 Tryz.underlying23 hi0 hz0 hz1 hz2 hzs (by decide) _ _ _ rfl HOW.out _ _ _ rfl HRW.out (by intro u hu;simp at hu;rcases hu with rfl|rfl|rfl|rfl|rfl<;>rfl) (by unfold maxLen;omega) (by omega) hsz ?_)
     intro v5 w5 hown5 hg5 hbk5;have HB5:Hid (Bw w w5):=HBA.out.grown hg5 hsz (fun x hx=>(HOW.out.lt x hx).1)
     have HO5:Hid (OwnE w w5 w.heap.size v5 ((l.drop k).map invE).reverse):=by
      show OwnE _ _ _ _ _
      rw [HSN.out];exact OwnE.snoc (e:=invE e) HYS.out ⟨HED.out.fresh,HED.out.old,HED.out.hf1,HED.out.hf2,HED.out.ho1,HED.out.ho2⟩ (by rw [show (invE e).kind=e.kind from HOP.out];exact hown5)
     clear hown5 hg5 hbk5 HOW HRW HYS HBA;go_wp2;go_roundw
     case rel=>exact ⟨k,by omega,by go_num,HO5,HB5⟩
     case measure=>first|(simp [intOf];omega)|simp [intOf]
end Go.Proofs.YtfkjfdbjhlmjcaaGreatDoor
