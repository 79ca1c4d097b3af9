/- The fields of a declaration that an edit mentions; the rest completed. -/
import Derived.Test.YtfkjfdbjhlmjcaaGreatDoorXSEd
import Derived.Handy
set_option maxRecDepth 100000
set_option maxHeartbeats 16000000
namespace Go.Proofs.YtfkjfdbjhlmjcaaGreatDoor
open Go.RowKit Go.Shelf
attribute [local go_sem] Oper.semAt_some
def exZ:Ex:=.mk 0 ⟨#[]⟩ ⟨#[]⟩ 0 0 []
def partD (k:Int) (d:ODecl):ODecl:=if k=7 then ⟨d.id,0,false,d.names,false,exZ⟩ else if k=8 then ⟨d.id,0,false,[],false,d.body⟩ else if k=9 then ⟨d.id,d.kind,d.pub,[],d.doubt,exZ⟩ else d
theorem zCm (w:World):Reads w [] (strsT []) (.slice none 0 0):=Reads.nilRow _ _ _ _
theorem zDo (w:World):Reads w [] (subsT []) (.slice none 0 0):=Reads.nilRow _ _ _ _
theorem DeclIn.onlyNames {w:World} {d:ODecl} {an:Option Addr} {cn:Nat} {sa:Option Addr} {cs:Nat} (h:DeclIn w d an cn sa cs) (i k:Int) (p q:Bool):DeclIn w ⟨i,k,p,d.names,q,exZ⟩ an cn none 0:=⟨h.names,zDo w,h.hn1,h.hn2,Nat.le_refl _,Nat.zero_le _⟩
theorem DeclIn.onlyBody {w:World} {d:ODecl} {an:Option Addr} {cn:Nat} {sa:Option Addr} {cs:Nat} (h:DeclIn w d an cn sa cs) (i k:Int) (p q:Bool):DeclIn w ⟨i,k,p,[],q,d.body⟩ none 0 sa cs:=⟨zCm w,h.subs,Nat.le_refl _,Nat.zero_le _,h.hs1,h.hs2⟩
theorem zGk (w:World) (i k:Int) (p q:Bool):DeclIn w ⟨i,k,p,[],q,exZ⟩ none 0 none 0:=⟨zCm w,zDo w,Nat.le_refl _,Nat.zero_le _,Nat.le_refl _,Nat.zero_le _⟩
theorem zEr (k:Int) (d:ODecl) (an:Option Addr) (cn:Nat) (sa:Option Addr) (cs:Nat) (w:World) (hd:DeclIn w d an cn sa cs) :
  Calls Tryz.prog 89 #[.int .i64 k,declV d an cn sa cs] w fun e w'=>∃an' cn' sa' cs',e=.returned (declV (partD k d) an' cn' sa' cs')∧DeclIn w' (partD k d) an' cn' sa' cs'∧Bw w w':=by
 have HD:=lH hd;clear hd;have hA:∀o1 o2,Bw w ((w.alloc o1).alloc o2):=fun _ _=>zA (zAa _ _) (zAa _ _);have hp:partD k d=if k=7 then ⟨d.id,0,false,d.names,false,exZ⟩ else if k=8 then ⟨d.id,0,false,[],false,d.body⟩ else if k=9 then ⟨d.id,d.kind,d.pub,[],d.doubt,exZ⟩ else d:=rfl
 by_cases h7:k=7
 ·have q7:(k==7)=true:=beq_iff_eq.2 h7
  rw [if_pos h7] at hp;have HP:=lH hp;clear hp h7;unfold declV
  go_enter Tryz.func89,Tryz.ntmps89
  go_wp2;go_returns;exact ⟨an,cn,none,0,by rw [HP.o];rfl,by rw [HP.o];exact (HD.o.below (hA _ _)).onlyNames _ _ _ _,hA _ _⟩
 have q7:(k==7)=false:=beq_eq_false_iff_ne.2 h7;rw [if_neg h7] at hp;clear h7
 by_cases h8:k=8
 ·have q8:(k==8)=true:=beq_iff_eq.2 h8
  rw [if_pos h8] at hp;have HP:=lH hp;clear hp h8;unfold declV
  go_enter Tryz.func89,Tryz.ntmps89
  go_wp2;go_returns;exact ⟨none,0,sa,cs,by rw [HP.o];rfl,by rw [HP.o];exact (HD.o.below (hA _ _)).onlyBody _ _ _ _,hA _ _⟩
 have q8:(k==8)=false:=beq_eq_false_iff_ne.2 h8;rw [if_neg h8] at hp;clear h8
 by_cases h9:k=9
 ·have q9:(k==9)=true:=beq_iff_eq.2 h9
  rw [if_pos h9] at hp;have HP:=lH hp;clear hp h9;unfold declV
  go_enter Tryz.func89,Tryz.ntmps89
  go_wp2;go_returns;exact ⟨none,0,none,0,by rw [HP.o];rfl,by rw [HP.o];exact zGk _ _ _ _ _,hA _ _⟩
 ·have q9:(k==9)=false:=beq_eq_false_iff_ne.2 h9
  rw [if_neg h9] at hp;have HP:=lH hp;clear hp h9;unfold declV
  go_enter Tryz.func89,Tryz.ntmps89
  go_wp2;go_returns;exact ⟨an,cn,sa,cs,by rw [HP.o],by rw [HP.o];exact HD.o.below (hA _ _),hA _ _⟩
theorem yBh (k:Int) (d:ODecl) (an:Option Addr) (cn:Nat) (sa:Option Addr) (cs:Nat) (w:World) (hd:DeclIn w d an cn sa cs) :
  Calls Tryz.prog 93 #[declV d an cn sa cs,.int .i64 k] w fun e w'=>∃an' cn' sa' cs',e=.returned (declV (partD k d) an' cn' sa' cs')∧DeclIn w' (partD k d) an' cn' sa' cs'∧Bw w w':=by
 have HD:=lH hd;clear hd;have hA:∀o1 o2,Bw w ((w.alloc o1).alloc o2):=fun _ _=>zA (zAa _ _) (zAa _ _);have hp:partD k d=if k=7 then ⟨d.id,0,false,d.names,false,exZ⟩ else if k=8 then ⟨d.id,0,false,[],false,d.body⟩ else if k=9 then ⟨d.id,d.kind,d.pub,[],d.doubt,exZ⟩ else d:=rfl
 by_cases h7:k=7
 ·have q7:(k==7)=true:=beq_iff_eq.2 h7
  rw [if_pos h7] at hp;have HP:=lH hp;clear hp h7;unfold declV
  go_enter Tryz.func93,Tryz.ntmps93
  go_wp2;go_returns;exact ⟨an,cn,none,0,by rw [HP.o];rfl,by rw [HP.o];exact (HD.o.below (hA _ _)).onlyNames _ _ _ _,hA _ _⟩
 have q7:(k==7)=false:=beq_eq_false_iff_ne.2 h7;rw [if_neg h7] at hp;clear h7
 by_cases h8:k=8
 ·have q8:(k==8)=true:=beq_iff_eq.2 h8
  rw [if_pos h8] at hp;have HP:=lH hp;clear hp h8;unfold declV
  go_enter Tryz.func93,Tryz.ntmps93
  go_wp2;go_returns;exact ⟨none,0,sa,cs,by rw [HP.o];rfl,by rw [HP.o];exact (HD.o.below (hA _ _)).onlyBody _ _ _ _,hA _ _⟩
 have q8:(k==8)=false:=beq_eq_false_iff_ne.2 h8;rw [if_neg h8] at hp;clear h8
 by_cases h9:k=9
 ·have q9:(k==9)=true:=beq_iff_eq.2 h9
  rw [if_pos h9] at hp;have HP:=lH hp;clear hp h9;unfold declV
  go_enter Tryz.func93,Tryz.ntmps93
  go_wp2;go_returns;exact ⟨none,0,none,0,by rw [HP.o];rfl,by rw [HP.o];exact zGk _ _ _ _ _,hA _ _⟩
 ·have q9:(k==9)=false:=beq_eq_false_iff_ne.2 h9
  rw [if_neg h9] at hp;have HP:=lH hp;clear hp h9;unfold declV
  go_enter Tryz.func93,Tryz.ntmps93
  go_wp2;go_returns;exact ⟨an,cn,sa,cs,by rw [HP.o],by rw [HP.o];exact HD.o.below (hA _ _),hA _ _⟩
def nilX:Ex:=.mk 11 ⟨#[]⟩ ⟨#[]⟩ 0 0 []
def aName:ByteArray:=⟨#[97]⟩
def compD (k:Int) (d:ODecl):ODecl:=⟨d.id,if 7≤k∧k≠9 then 1 else d.kind,d.pub,if 7≤k∧k≠7 then [aName] else d.names,d.doubt,if 7≤k∧k≠8 then nilX else d.body⟩
theorem zPx {k:Int} (h:k<7) (d:ODecl):compD k d=d:=by
 unfold compD;rw [if_neg (by omega),if_neg (by omega),if_neg (by omega)]
theorem zYd {k:Int} (h:k<7) (d:ODecl):partD k d=d:=by
 unfold partD;rw [if_neg (by omega),if_neg (by omega),if_neg (by omega)]
def partialB (k:Int) (l:List ODecl):Bool:=l.all fun d=>sameD d (partD k d)
theorem zBp {k:Int} (h:k<7) (l:List ODecl):partialB k l=true:=by
 unfold partialB;rw [List.all_eq_true];intro d _;rw [zYd h];exact zFf.2 rfl
theorem zSb {k:Int} {l:List ODecl} {i:Nat} {d:ODecl} (h:l[i]?=some d):partialB k (l.drop i)=(sameD d (partD k d) && partialB k (l.drop (i+1))):=by
 obtain ⟨hj,e⟩:=List.getElem?_eq_some_iff.1 h;rw [List.drop_eq_getElem_cons hj,e,partialB,List.all_cons];rfl
theorem zPy {k:Int} {l:List ODecl} {i:Nat} (h:l.length≤i):partialB k (l.drop i)=true:=by
 rw [List.drop_eq_nil_of_le h];rfl
theorem zHb (k:Int) (l:List ODecl) (a:Option Addr) (c:Nat) (w:World) (hl:Reads w [] (declsT l) (.slice a l.length c)) (hs:∀d∈l,SmD d) (hb:l.length≤1000000) (hN:∀d∈l,nodesN d.body≤1000000) :
  Calls Tryz.prog 109 #[.slice a l.length c,.int .i64 k] w fun e w'=>e=.returned (.bool (partialB k l))∧Bw w w':=by
 have HL:=lH hl;have HS:=lH hs;have HN:=lH hN;clear hl hs hN;have HE:Hid (partialB k l=partialB k (l.drop 0)):=rfl;generalize partialB k l=T at *
 go_enter Tryz.func109,Tryz.ntmps109
 go_wp2
 go_loopw [5] (fun iv wr=>∃i:Nat,i≤l.length∧iv=.int .i64 i∧Hid (T=partialB k (l.drop i))∧Bw w wr) (fun iv _=>l.length - (intOf iv).toNat)
 case atStart=>exact ⟨0,Nat.zero_le _,rfl,HE,zAl _⟩
 case round=>
  obtain ⟨i,hil,rfl,HI,hb'⟩:=hrel
  by_cases hi:i<l.length
  ·have hd:decide ((i:Int)<(l.length:Int))=true:=decide_eq_true (by omega)
   have hir:(i:Int)<(l.length:Int):=by omega
   obtain ⟨d,hdi⟩:∃d,l[i]?=some d:=⟨_,List.getElem?_eq_getElem hi⟩;obtain ⟨b,o,an,cn,sa,cs,rfl,hbl,hcell,hn1,hn2,hsn,hs1,hs2,hsr⟩:=zAv (HL.o.below hb') hdi;have hsd:=HS.o d (List.mem_of_getElem? hdi);have hnd:=HN.o d (List.mem_of_getElem? hdi);have HP:=lH (fun w' (h':Bw wr w')=>yBh k d an cn sa cs w' (DeclIn.below ⟨hsn.out,hsr.out,hn1,hn2,hs1,hs2⟩ h'))
   have HSD:=lH (fun an' cn' sa' cs' w' (h':Bw wr w') h2=>zEq d (partD k d) an cn sa cs an' cn' sa' cs' w' (DeclIn.below ⟨hsn.out,hsr.out,hn1,hn2,hs1,hs2⟩ h') h2 hsd.len hnd);have x0:=hcell 0 _ rfl;have x1:=hcell 1 _ rfl;have x2:=hcell 2 _ rfl;have x3:=hcell 3 _ rfl;have x4:=hcell 4 _ rfl;have x5:=hcell 5 _ rfl;have x6:=hcell 6 _ rfl;have x7:=hcell 7 _ rfl;have x8:=hcell 8 _ rfl;have x9:=hcell 9 _ rfl;have x10:=hcell 10 _ rfl;have HT:=lH (HI.o.trans (zSb hdi));clear hsd hnd hsr hsn hcell HI;unfold declL declV at *
   rw [Nat.add_zero] at x0;generalize sameD d (partD k d)=r at *;go_upto_region 4 with (fail)
   go_cut [23] from 12 to 23 (fun v wx=>v=.bool (!r)∧RowKit.Below wr.heap.size wr wx)
   case first=>
    have SW:Hid (∀W:World,Bw wr W→(b<W.heap.size∧W.cell? ⟨b,o+i * 11,none⟩=some (.int .i64 d.id)∧W.cell? ⟨b,o+i * 11+1,none⟩=some (.int .i64 d.kind)∧W.cell? ⟨b,o+i * 11+2,none⟩=some (.bool d.pub)∧W.cell? ⟨b,o+i * 11+3,none⟩=some (.slice an d.names.length cn)∧W.cell? ⟨b,o+i * 11+4,none⟩=some (.bool d.doubt)∧W.cell? ⟨b,o+i * 11+5,none⟩=some (.int .i64 d.body.kind)∧W.cell? ⟨b,o+i * 11+6,none⟩=some (.string d.body.name)∧W.cell? ⟨b,o+i * 11+7,none⟩=some (.string d.body.more)∧W.cell? ⟨b,o+i * 11+8,none⟩=some (.int .i64 d.body.num)∧W.cell? ⟨b,o+i * 11+9,none⟩=some (.int .i64 d.body.den)∧W.cell? ⟨b,o+i * 11+10,none⟩=some (.slice sa d.body.subs.length cs))):=lH (fun W hW=>⟨Nat.lt_of_lt_of_le hbl hW.size,(hW.cell (p:=⟨b,_,none⟩) hbl).trans x0,(hW.cell (p:=⟨b,_,none⟩) hbl).trans x1,(hW.cell (p:=⟨b,_,none⟩) hbl).trans x2,(hW.cell (p:=⟨b,_,none⟩) hbl).trans x3,(hW.cell (p:=⟨b,_,none⟩) hbl).trans x4,(hW.cell (p:=⟨b,_,none⟩) hbl).trans x5,(hW.cell (p:=⟨b,_,none⟩) hbl).trans x6,(hW.cell (p:=⟨b,_,none⟩) hbl).trans x7,(hW.cell (p:=⟨b,_,none⟩) hbl).trans x8,(hW.cell (p:=⟨b,_,none⟩) hbl).trans x9,(hW.cell (p:=⟨b,_,none⟩) hbl).trans x10⟩)
    refine wp_region_noPanic (zCp (fun W:World=>b<W.heap.size∧W.cell? ⟨b,o+i * 11,none⟩=some (.int .i64 d.id)∧W.cell? ⟨b,o+i * 11+1,none⟩=some (.int .i64 d.kind)∧W.cell? ⟨b,o+i * 11+2,none⟩=some (.bool d.pub)∧W.cell? ⟨b,o+i * 11+3,none⟩=some (.slice an d.names.length cn)∧W.cell? ⟨b,o+i * 11+4,none⟩=some (.bool d.doubt)∧W.cell? ⟨b,o+i * 11+5,none⟩=some (.int .i64 d.body.kind)∧W.cell? ⟨b,o+i * 11+6,none⟩=some (.string d.body.name)∧W.cell? ⟨b,o+i * 11+7,none⟩=some (.string d.body.more)∧W.cell? ⟨b,o+i * 11+8,none⟩=some (.int .i64 d.body.num)∧W.cell? ⟨b,o+i * 11+9,none⟩=some (.int .i64 d.body.den)∧W.cell? ⟨b,o+i * 11+10,none⟩=some (.slice sa d.body.subs.length cs)) [true,true,true,true,true,true,true,true,true,false,false,true] zBm (by kernel_rfl) (fun _ _ _ _ _ h=>h) (SW.o _ (Mod.refl [] wr).drew.below) (fun hHeld=>?_))
    iterate 9 (first|(refine zAo (by rfl) ?_;(try simp only [Act.put,List.setIfInBounds_toArray,List.set_cons_zero,List.set_cons_succ]))|(refine zAw (v:=?_) (by rfl) ?_ ?_;rotate_left;(focus (intro wq hSw;(try dsimp only at hSw);go_simp;(try with_reducible rfl)));(try simp only [Act.put,List.setIfInBounds_toArray,List.set_cons_zero,List.set_cons_succ])))
    have hdr:RowKit.Below wr.heap.size wr wr.drew:=(Mod.refl [] wr).drew.below;clear hHeld x0 x1 x2 x3 x4 x5 x6 x7 x8 x9 x10;generalize wr.drew=wd at *
    (refine zDb (by rfl) (fun K hK=>?_);go_simp)
    refine (HP.o _ hdr).mono ?_;rintro e w3 ⟨an',cn',sa',cs',rfl,hdi3,hb3⟩
    (try go_simp)
    have hb4:=zA hdr hb3;refine hK.out _ _ (SW.o _ hb4) (fun _=>?_);clear hK K;(try simp only [Act.put,List.setIfInBounds_toArray,List.set_cons_zero,List.set_cons_succ])
    (refine zDb (by rfl) (fun K hK=>?_);go_simp)
    refine (HSD.o _ _ _ _ _ hb4 hdi3).mono ?_;rintro e w5 ⟨rfl,hb5⟩
    (try go_simp)
    have hb6:=zA hb4 hb5;refine hK.out _ _ (SW.o _ hb6) (fun _=>?_);clear hK K;(try simp only [Act.put,List.setIfInBounds_toArray,List.set_cons_zero,List.set_cons_succ])
    (first|(refine zAo (by rfl) ?_;(try simp only [Act.put,List.setIfInBounds_toArray,List.set_cons_zero,List.set_cons_succ]))|(refine zAw (v:=?_) (by rfl) ?_ ?_;rotate_left;(focus (intro wq hSw;(try dsimp only at hSw);go_simp;(try with_reducible rfl)));(try simp only [Act.put,List.setIfInBounds_toArray,List.set_cons_zero,List.set_cons_succ])))
    refine zDg ?_;refine NoPanic.normal ?_;go_wp2;go_meet
    case rel=>exact ⟨rfl,hb6⟩
   case rest=>
   obtain ⟨rfl,hb4⟩:=hcut;have hB4:=hb'.trans (hb4.mono hb'.size);clear x0 x1 x2 x3 x4 x5 x6 x7 x8 x9 x10
   cases r with
   | true=>
    rw [Bool.true_and] at HT;simp only [Bool.not_true]
    go_wp2;go_roundw
    case rel=>exact ⟨i+1,by omega,by go_num,HT,hB4⟩
    case measure=>simp [intOf];omega
   | false=>
    rw [Bool.false_and] at HT;simp only [Bool.not_false]
    go_wp2;go_ret;exact ⟨zAb HT.o.symm,hB4⟩
  ·have hd:decide ((i:Int)<(l.length:Int))=false:=decide_eq_false (by omega)
   have HF:Hid (T=true):=by show _=_;rw [HI.o,zPy (by omega)]
   go_wp2;go_ret;exact ⟨zAb HF.o.symm,hb'⟩
theorem zMi (w:World) (B:Nat) (h:w.heap[B]?=some (.cells #[.string aName] 9 (0,0))):Reads w [] (strsT [aName]) (.slice (some ⟨B,0,none⟩) 1 1):=by
 refine zAg.2 ⟨⟨rfl,_,1,rfl,Nat.le_refl _,by unfold maxLen;omega,fun _=>⟨B,0,rfl,(Array.getElem?_eq_some_iff.1 h).1,fun j u hj=>?_⟩⟩,fun _ b _=>by simp⟩
 cases j with
 | zero=>simp at hj;subst hj;simp [World.cell?,h]
 | succ j=>simp at hj
theorem zNx (k:Int) (d:ODecl) (an:Option Addr) (cn:Nat) (sa:Option Addr) (cs:Nat) (w:World) (hd:DeclIn w d an cn sa cs) :
  Calls Tryz.prog 60 #[declV d an cn sa cs,.int .i64 k] w fun e w'=>∃an' cn' sa' cs',e=.returned (declV (compD k d) an' cn' sa' cs')∧DeclIn w' (compD k d) an' cn' sa' cs'∧Bw w w':=by
 have HD:=lH hd;clear hd;have hA2:∀o1 o2,Bw w ((w.alloc o1).alloc o2):=fun _ _=>zA (zAa _ _) (zAa _ _);have hA3:∀o1 o2 o3,Bw w (((w.alloc o1).alloc o2).alloc o3):=fun _ _ _=>zA (zA (zAa _ _) (zAa _ _)) (zAa _ _);have HN3:Hid (∀o1 o2,Reads (((w.alloc o1).alloc o2).alloc (.cells #[.string aName] 9)) [] (strsT [aName]) (.slice (some ⟨w.heap.size+1+1,0,none⟩) 1 1)):=lH (fun o1 o2=>zMi _ _ (by have:=World.alloc_heap_new ((w.alloc o1).alloc o2) (.cells #[.string aName] 9);rwa [World.size_alloc,World.size_alloc] at this))
 have hp:compD k d=⟨d.id,if 7≤k∧k≠9 then 1 else d.kind,d.pub,if 7≤k∧k≠7 then [aName] else d.names,d.doubt,if 7≤k∧k≠8 then nilX else d.body⟩:=rfl
 by_cases h7:k<7
 ·have q7:decide (7≤k)=false:=decide_eq_false (by omega)
  rw [zPx h7];clear h7 hp;unfold declV
  go_enter Tryz.func60,Tryz.ntmps60
  go_wp2;go_returns;exact ⟨an,cn,sa,cs,rfl,HD.o.below (hA2 _ _),hA2 _ _⟩
 have q7:decide (7≤k)=true:=decide_eq_true (by omega)
 by_cases e7:k=7
 ·skip
  have n9:(k != 9)=true:=bne_iff_ne.2 (by omega);have n7:(k != 7)=false:=by rw [e7];rfl
  have n8:(k != 8)=true:=bne_iff_ne.2 (by omega);rw [if_pos (by omega),if_neg (by omega),if_pos (by omega)] at hp;have HP:=lH hp;clear hp e7 h7;unfold declV
  go_enter Tryz.func60,Tryz.ntmps60
  go_wp2;go_returns;exact ⟨an,cn,none,0,by rw [HP.o];rfl,by rw [HP.o];exact ⟨(HD.o.below (hA2 _ _)).names,zDo _,HD.o.hn1,HD.o.hn2,Nat.le_refl _,Nat.zero_le _⟩,hA2 _ _⟩
 by_cases e8:k=8
 ·skip
  have n9:(k != 9)=true:=bne_iff_ne.2 (by omega);have n7:(k != 7)=true:=bne_iff_ne.2 (by omega);have n8:(k != 8)=false:=by rw [e8];rfl
  rw [if_pos (by omega),if_pos (by omega),if_neg (by omega)] at hp;have HP:=lH hp;clear hp e7 e8 h7;unfold declV
  go_enter Tryz.func60,Tryz.ntmps60
  go_wp2;go_returns;exact ⟨some ⟨w.heap.size+1+1,0,none⟩,1,sa,cs,by rw [HP.o];rfl,by rw [HP.o];exact ⟨HN3.o _ _,(HD.o.below (hA3 _ _ _)).subs,Nat.le_refl _,by decide,HD.o.hs1,HD.o.hs2⟩,hA3 _ _ _⟩
 by_cases e9:k=9
 ·skip
  have n9:(k != 9)=false:=by rw [e9];rfl
  have n7:(k != 7)=true:=bne_iff_ne.2 (by omega);have n8:(k != 8)=true:=bne_iff_ne.2 (by omega);rw [if_neg (by omega),if_pos (by omega),if_pos (by omega)] at hp;have HP:=lH hp;clear hp e7 e8 e9 h7;unfold declV
  go_enter Tryz.func60,Tryz.ntmps60
  go_wp2;go_returns;exact ⟨some ⟨w.heap.size+1+1,0,none⟩,1,none,0,by rw [HP.o];rfl,by rw [HP.o];exact ⟨HN3.o _ _,zDo _,Nat.le_refl _,by decide,Nat.le_refl _,Nat.zero_le _⟩,hA3 _ _ _⟩
 ·skip
  have n9:(k != 9)=true:=bne_iff_ne.2 (by omega);have n7:(k != 7)=true:=bne_iff_ne.2 (by omega);have n8:(k != 8)=true:=bne_iff_ne.2 (by omega);rw [if_pos (by omega),if_pos (by omega),if_pos (by omega)] at hp;have HP:=lH hp;clear hp e7 e8 e9 h7;unfold declV
  go_enter Tryz.func60,Tryz.ntmps60
  go_wp2;go_returns;exact ⟨some ⟨w.heap.size+1+1,0,none⟩,1,none,0,by rw [HP.o];rfl,by rw [HP.o];exact ⟨HN3.o _ _,zDo _,Nat.le_refl _,by decide,Nat.le_refl _,Nat.zero_le _⟩,hA3 _ _ _⟩
end Go.Proofs.YtfkjfdbjhlmjcaaGreatDoor
