/- The chapter's example, reckoned; SameInts; the example's closures. The chapter's example holds. Plain: what the search for needed edits meets. The reference's check of chapter 35. The reference's needed of chapter 35. The reference's Needs; Pick both. Pick, both. Plain: what is dropped; the reference's Drop. commute.Drop. -/
import Derived.Test.YtdpnfkjafhbndaaGreatDoorCT8
import Derived.Test.YtdpnfkjafhbndaaGreatDoorCSEr
import Derived.Test.YtdpnfkjafhbndaaGreatDoorCV1
namespace Go.Proofs.YtdpnfkjafhbndaaGreatDoor
open Go.RowKit Go.Shelf
attribute [local go_sem] Oper.semAt_some
def fName:ByteArray:=⟨#[102]⟩
def gName:ByteArray:=⟨#[103]⟩
def nameD (s:ByteArray):ODecl:=⟨3,0,false,[s],false,exZ⟩
def bodyD (n:Int):ODecl:=⟨3,0,false,[],false,.mk 1 ⟨#[]⟩ ⟨#[]⟩ n 0 []⟩
def letD:ODecl:=⟨3,1,false,[fName],false,nilX⟩
def aE:OEdit:=⟨7,aName,⟨#[]⟩,[nameD fName],[nameD gName]⟩
def bE:OEdit:=⟨8,aName,⟨#[]⟩,[bodyD 1],[bodyD 2]⟩
def cE:OEdit:=⟨5,aName,⟨#[]⟩,[],[letD]⟩
theorem ab_swap:swapB aE bE = true:=by kernel_rfl
theorem ca_swap:swapB cE aE = false:=by kernel_rfl
theorem ca_check:checkErr [cE,aE] 1 = 0:=by kernel_rfl
theorem ca_needs:needsOf [cE,aE] 1 = [0]:=by kernel_rfl
theorem smX_leaf (k n:Int) (hk:inI k) (hn:inI n):SmX 40000 (.mk k ⟨#[]⟩ ⟨#[]⟩ n 0 []):=.mk (by decide) (by decide) hk hn ⟨by decide,by decide⟩ (fun y hy => by cases hy)
theorem nameD_sm (s:ByteArray) (h:s.size≤40000):SmD (nameD s)∧nodesN (nameD s).body≤1000000:=
 ⟨⟨fun x hx => by simp only [nameD,List.mem_singleton] at hx;subst hx;exact h,(by decide:1≤1000000),smX_leaf 0 0 ⟨by decide,by decide⟩ ⟨by decide,by decide⟩,(by decide:1≤4000000)⟩,(by decide:1≤1000000)⟩
theorem bodyD_sm (n:Int) (h:inI n):SmD (bodyD n)∧nodesN (bodyD n).body≤1000000:=
 ⟨⟨fun x hx => by simp [bodyD] at hx,(by decide:0≤1000000),smX_leaf 1 n ⟨by decide,by decide⟩ h,(by decide:1≤4000000)⟩,(by decide:1≤1000000)⟩
theorem letD_sm:SmD letD∧nodesN letD.body≤1000000:=
 ⟨⟨fun x hx => by simp only [letD,List.mem_singleton] at hx;subst hx;decide,(by decide:1≤1000000),smX_nilX,(by decide:1≤4000000)⟩,(by decide:1≤1000000)⟩
theorem aE_sm:SmE aE:=⟨(by decide:aName.size≤40000),(by decide:ByteArray.size ⟨#[]⟩≤40000),fun d hd => by simp only [aE,List.mem_singleton] at hd;subst hd;exact nameD_sm _ (by decide),fun d hd => by simp only [aE,List.mem_singleton] at hd;subst hd;exact nameD_sm _ (by decide),(by decide:1≤1000000),(by decide:1≤1000000)⟩
theorem bE_sm:SmE bE:=⟨(by decide:aName.size≤40000),(by decide:ByteArray.size ⟨#[]⟩≤40000),fun d hd => by simp only [bE,List.mem_singleton] at hd;subst hd;exact bodyD_sm _ ⟨by decide,by decide⟩,fun d hd => by simp only [bE,List.mem_singleton] at hd;subst hd;exact bodyD_sm _ ⟨by decide,by decide⟩,(by decide:1≤1000000),(by decide:1≤1000000)⟩
theorem cE_sm:SmE cE:=⟨(by decide:aName.size≤40000),(by decide:ByteArray.size ⟨#[]⟩≤40000),fun d hd => by simp [cE] at hd,fun d hd => by simp only [cE,List.mem_singleton] at hd;subst hd;exact letD_sm,(by decide:0≤1000000),(by decide:1≤1000000)⟩
def sameIs:List Int→List Int→Bool
 | [],[] => true
 | a :: r,b :: s => a == b && sameIs r s
 | _,_ => false
theorem sameIs_iff:∀ {l m:List Int},sameIs l m = true↔l = m
 | [],[] => by simp [sameIs]
 | [],b :: s => by simp [sameIs]
 | a :: r,[] => by simp [sameIs]
 | a :: r,b :: s => by simp [sameIs,sameIs_iff]
theorem sameIs_len {l m:List Int} (h:l.length≠m.length):sameIs l m = false:=by
 cases e:sameIs l m with
 | false => rfl
 | true => exact absurd (congrArg List.length (sameIs_iff.1 e)) h
theorem sameIs_at {l m:List Int} {i:Nat} {x y:Int} (hx:l[i]? = some x) (hy:m[i]? = some y):sameIs (l.drop i) (m.drop i) = (x == y && sameIs (l.drop (i + 1)) (m.drop (i + 1))):=by
 obtain ⟨h1,e1⟩:=List.getElem?_eq_some_iff.1 hx;obtain ⟨h2,e2⟩:=List.getElem?_eq_some_iff.1 hy;rw [List.drop_eq_getElem_cons h1,List.drop_eq_getElem_cons h2,sameIs,e1,e2]
theorem sameIs_end {l m:List Int} {i:Nat} (hl:l.length≤i) (hm:m.length≤i):sameIs (l.drop i) (m.drop i) = true:=by
 rw [List.drop_eq_nil_of_le hl,List.drop_eq_nil_of_le hm,sameIs]
theorem ints_elem {w:World} {v:Value} {l:List Int} (h:IntsR w v l) {i:Nat} {x:Int} (hi:l[i]? = some x):∃ b o c,v = .slice (some ⟨b,o,none⟩) l.length c∧b < w.heap.size∧w.cell? ⟨b,o + i,none⟩ = some (.int .i64 x):=by
 obtain ⟨_,a,c,rfl,_,_,h3⟩:=h;obtain ⟨h1,h2⟩:=List.getElem?_eq_some_iff.1 hi;obtain ⟨b,o,rfl,hb,hc⟩:=h3 (by omega);refine ⟨b,o,c,rfl,hb,hc i _ ?_⟩;rw [List.getElem?_map,hi];rfl
theorem ints_val {w:World} {v:Value} {l:List Int} (h:IntsR w v l):∃ a c,v = .slice a l.length c:=by
 obtain ⟨_,a,c,rfl,_⟩:=h;exact ⟨a,c,rfl⟩
theorem IntsR.below {w w':World} {v:Value} {l:List Int} (h:IntsR w v l) (m:Below w.heap.size w w'):IntsR w' v l:=IsRow.below h m
set_option maxRecDepth 100000 in
set_option maxHeartbeats 4000000 in
theorem rSameInts_any (l m:List Int) (va vb:Value) (w:World) (hl:IntsR w va l) (hm:IntsR w vb m) (hn:l.length≤1000000) (_hn2:m.length≤1000000) :
  Calls Tryz.prog 63 #[va,vb] w fun r w' => r = .returned (.bool (sameIs l m))∧Below w.heap.size w w':=by
 have HL:=lH hl;have HM:=lH hm;obtain ⟨a,c,rfl⟩:=ints_val hl;obtain ⟨b,d,rfl⟩:=ints_val hm;have HE:Hid (sameIs l m = sameIs (l.drop 0) (m.drop 0)):=rfl;have HLEN:=lH (sameIs_len (l:=l) (m:=m));clear hl hm;generalize sameIs l m = T at *
 by_cases hlen:l.length = m.length
 rotate_left
 ·have q1:((l.length:Int) != (m.length:Int)) = true:=bne_iff_ne.2 (by omega)
  have HF:=lH (HLEN.out hlen);clear hlen HLEN
  go_enter Tryz.func63,Tryz.ntmps63
  go_wp2;go_ret;exact ⟨ret_bool HF.out.symm,qrefl _⟩
 have q1:((l.length:Int) != (m.length:Int)) = false:=by rw [hlen];simp
 have HLE:=lH hlen;clear hlen HLEN
 go_enter Tryz.func63,Tryz.ntmps63
 go_wp2
 go_loopw [5] (fun iv wr => ∃ i:Nat,i≤l.length∧iv = .int .i64 i∧Hid (T = sameIs (l.drop i) (m.drop i))∧Below w.heap.size w wr) (fun iv _ => l.length - (intOf iv).toNat)
 case atStart => exact ⟨0,Nat.zero_le _,rfl,HE,qrefl _⟩
 case round =>
  obtain ⟨i,hil,rfl,HI,hb⟩:=hrel
  by_cases hi:i < l.length
  ·have hd:decide ((i:Int) < (l.length:Int)) = true:=decide_eq_true (by omega)
   have hi2:i < m.length:=by rw [← HLE.out];exact hi
   have hir:(i:Int) < (l.length:Int):=by omega
   have hir2:(i:Int) < (m.length:Int):=by omega
   obtain ⟨x,hx⟩:∃ x,l[i]? = some x:=⟨_,List.getElem?_eq_getElem hi⟩;obtain ⟨y,hy⟩:∃ y,m[i]? = some y:=⟨_,List.getElem?_eq_getElem hi2⟩;obtain ⟨b1,o1,c1,e1,hb1,x0⟩:=ints_elem (HL.out.below hb) hx;obtain ⟨b2,o2,c2,e2,hb2,y0⟩:=ints_elem (HM.out.below hb) hy
   cases e1
   cases e2
   have HN:=lH (HI.out.trans (sameIs_at hx hy));obtain ⟨r,er⟩:∃ r,(x == y) = r:=⟨_,rfl⟩;have hne:(x != y) = !r:=by rw [bne,er]
   rw [er] at HN;have hdw:Below w.heap.size w wr.drew:=hb.trans ((Mod.refl [] wr).drew.below.mono hb.size);clear hx hy HI er hi2;go_upto_region 6 with (fail)
   go_cut [25] from 11 to 25 (fun v wx => v = .bool (!r)∧Below w.heap.size w wx)
   case first =>
    refine wp_region_noPanic ?_
    go_quiet (fail)
    refine NoPanic.normal ?_
    (try go_wp2)
    go_meet
    case rel => exact ⟨rfl,below_drewN hb _⟩
   case rest =>
   obtain ⟨rfl,hB4⟩:=hcut
   cases r with
   | true =>
    rw [Bool.true_and] at HN;simp only [Bool.not_true]
    go_wp2;go_roundw
    case rel => exact ⟨i + 1,by omega,by go_num,HN,hB4⟩
    case measure => simp [intOf];omega
   | false =>
    rw [Bool.false_and] at HN;simp only [Bool.not_false]
    go_wp2;go_ret;exact ⟨ret_bool HN.out.symm,hB4⟩
  ·have hd:decide ((i:Int) < (l.length:Int)) = false:=decide_eq_false (by omega)
   have HF:Hid (T = true):=by show _ = _;rw [HI.out,sameIs_end (by omega) (by rw [← HLE.out];omega)]
   go_wp2;go_ret;exact ⟨ret_bool HF.out.symm,hb⟩
theorem awakeName_any (s:ByteArray) (w:World):Calls Tryz.prog 59 #[.string s] w fun r w' => ∃ a:Option Addr,r = .returned (.slice a 1 1)∧Reads w' [] (declsT [nameD s]) (.slice a 1 1)∧Below w.heap.size w w':=by
 have h1:=qalloc w (.cells #[.string s] 9);have hd:DeclIn (w.alloc (.cells #[.string s] 9)) (nameD s) (some ⟨w.heap.size,0,none⟩) 1 none 0:=⟨strs_text w s,nilRow_subs _,Nat.le_refl _,by decide,Nat.le_refl _,Nat.zero_le _⟩;have HD:=lH (reads_declOne hd);have hA:=qtrans h1 (qalloc (w.alloc (.cells #[.string s] 9)) (.cells #[.int .i64 3,.int .i64 0,.bool false,.slice (some ⟨w.heap.size,0,none⟩) 1 1,.bool false,.int .i64 0,.string ⟨#[]⟩,.string ⟨#[]⟩,.int .i64 0,.int .i64 0,.slice none 0 0] 69));have HA:=lH hA;clear hd h1 hA
 go_enter Tryz.func59,Tryz.ntmps59
 go_wp2;go_ret;exact ⟨some ⟨w.heap.size + 1,0,none⟩,rfl,by have q:=HD.out;rw [World.size_alloc] at q;exact q,HA.out⟩
theorem awakeBody_any (n:Int) (w:World):Calls Tryz.prog 60 #[.int .i64 n] w fun r w' => ∃ a:Option Addr,r = .returned (.slice a 1 1)∧Reads w' [] (declsT [bodyD n]) (.slice a 1 1)∧Below w.heap.size w w':=by
 have hd:DeclIn w (bodyD n) none 0 none 0:=⟨nilRow_strs w,nilRow_subs w,Nat.le_refl _,Nat.zero_le _,Nat.le_refl _,Nat.zero_le _⟩;have HD:=lH (reads_declOne hd);have HA:=lH (qalloc w (.cells #[.int .i64 3,.int .i64 0,.bool false,.slice none 0 0,.bool false,.int .i64 1,.string ⟨#[]⟩,.string ⟨#[]⟩,.int .i64 n,.int .i64 0,.slice none 0 0] 69));clear hd
 go_enter Tryz.func60,Tryz.ntmps60
 go_wp2;go_ret;exact ⟨some ⟨w.heap.size,0,none⟩,rfl,HD.out,HA.out⟩
theorem own_many (w:World) (B:Nat) (hB:B≤w.heap.size) (t:TypeId) (xs:Array Value) (sz n:Nat) (h:xs.size = n * sz) (hn:n≤1000000):(w.alloc (.cells xs t)).ownsRow B t sz (.slice (some ⟨w.heap.size,0,none⟩) n n) n xs.toList:=
 ⟨by rw [Array.length_toList];exact h,.inr ⟨w.heap.size,n,_,rfl,hB,World.alloc_heap_new _ _,Nat.le_refl _,by unfold maxLen;omega,h,by rw [← h,← Array.length_toList,List.take_length]⟩⟩
theorem edits_two (W:World) (e f:OEdit) (ao:Option Addr) (co:Nat) (af:Option Addr) (cf:Nat) (bo:Option Addr) (do':Nat) (bf:Option Addr) (df:Nat) (he:EditIn W e ao co af cf) (hf:EditIn W f bo do' bf df) :
  Reads (W.alloc (.cells #[.int .i64 e.kind,.string e.pack,.string e.text,.slice ao e.old.length co,.slice af e.fresh.length cf,.int .i64 f.kind,.string f.pack,.string f.text,.slice bo f.old.length do',.slice bf f.fresh.length df] 35)) [] (editsT [e,f]) (.slice (some ⟨W.heap.size,0,none⟩) 2 2):=by
 refine Reads.ofRow (l:=[e,f]) (owns_row (own_many W W.heap.size (Nat.le_refl _) 35 _ 5 2 rfl (by omega))) (fun _ b _ => by simp) ?_;have h1:=he.below (qalloc W (.cells #[.int .i64 e.kind,.string e.pack,.string e.text,.slice ao e.old.length co,.slice af e.fresh.length cf,.int .i64 f.kind,.string f.pack,.string f.text,.slice bo f.old.length do',.slice bf f.fresh.length df] 35))
 have h2:=hf.below (qalloc W (.cells #[.int .i64 e.kind,.string e.pack,.string e.text,.slice ao e.old.length co,.slice af e.fresh.length cf,.int .i64 f.kind,.string f.pack,.string f.text,.slice bo f.old.length do',.slice bf f.fresh.length df] 35));rw [List.flatMap_cons,List.flatMap_cons,List.flatMap_nil,List.append_nil]
 exact ReadsL.cons (Reads.leaf' _ _ _) (ReadsL.cons (Reads.leaf' _ _ _) (ReadsL.cons (Reads.leaf' _ _ _) (ReadsL.cons h1.old (ReadsL.cons h1.fresh (ReadsL.cons (Reads.leaf' _ _ _) (ReadsL.cons (Reads.leaf' _ _ _) (ReadsL.cons (Reads.leaf' _ _ _) (ReadsL.cons h2.old (ReadsL.cons h2.fresh (ReadsL.nil _ _))))))))))
theorem ints_zero (W:World):IntsR (W.alloc (.cells #[.int .i64 0] 3)) (.slice (some ⟨W.heap.size,0,none⟩) 1 1) [0]:=owns_row (own_one W W.heap.size (Nat.le_refl _) (.int .i64 0) 3)
set_option maxRecDepth 100000 in
set_option maxHeartbeats 8000000 in
theorem awake35_any (w:World):Calls Tryz.prog 20 #[] w fun r w' => r = .returned (.bool true)∧Below w.heap.size w w':=by
 go_enter Tryz.func20,Tryz.ntmps20
 go_wp2_with (fail)
 refine (awakeName_any fName _).mono ?_;rintro r w1 ⟨fa,rfl,hr1,hb1⟩;have HB1:=lH hb1;have HR1:=lH hr1;clear hb1 hr1;go_wp2_with (fail)
 refine (awakeName_any gName _).mono ?_;rintro r w2 ⟨ga,rfl,hr2,hb2⟩;have HB2:=lH (qtrans HB1.out hb2);have HIA:Hid (EditIn w2 aE fa 1 ga 1):=⟨HR1.out.below hb2,hr2,Nat.le_refl _,by decide,Nat.le_refl _,by decide⟩;clear hr2 hb2 HR1 HB1;go_upto_region 4 with (fail)
 have hq:=qalloc w2 (.cells #[.int .i64 7,.string ⟨#[97]⟩,.string ⟨#[]⟩,.slice fa 1 1,.slice ga 1 1] 35);have HB3:=lH (qtrans HB2.out hq);have HIA3:=lH (HIA.out.below hq);have HA3:=lH (CBox.new w2 35 #[.int .i64 7,.string ⟨#[97]⟩,.string ⟨#[]⟩,.slice fa 1 1,.slice ga 1 1]);clear hq HIA HB2;generalize w2.alloc (.cells #[.int .i64 7,.string ⟨#[97]⟩,.string ⟨#[]⟩,.slice fa 1 1,.slice ga 1 1] 35) = w3 at *;generalize w2.heap.size = A at *;go_wp2_with (fail)
 refine (awakeBody_any 1 _).mono ?_;rintro r w4 ⟨ba,rfl,hr4,hb4⟩;have HB4:=lH hb4;have HR4:=lH hr4;clear hb4 hr4;go_wp2_with (fail)
 refine (awakeBody_any 2 _).mono ?_;rintro r w5 ⟨da,rfl,hr5,hb5⟩;have HB35:=lH (qtrans HB4.out hb5);have HIB:Hid (EditIn w5 bE ba 1 da 1):=⟨HR4.out.below hb5,hr5,Nat.le_refl _,by decide,Nat.le_refl _,by decide⟩;have HIA5:=lH (HIA3.out.below HB35.out);have HA5:=lH (HA3.out.below HB35.out);have HB5:=lH (qtrans HB3.out HB35.out);clear hr5 hb5 HR4 HB4 HB35 HIA3 HA3 HB3;go_upto_region 5 with (fail)
 have hq:=qalloc w5 (.cells #[.int .i64 8,.string ⟨#[97]⟩,.string ⟨#[]⟩,.slice ba 1 1,.slice da 1 1] 35);have HB6:=lH (qtrans HB5.out hq);have HIA6:=lH (HIA5.out.below hq);have HIB6:=lH (HIB.out.below hq);have HA6:=lH (HA5.out.below hq);have HBB6:=lH (CBox.new w5 35 #[.int .i64 8,.string ⟨#[97]⟩,.string ⟨#[]⟩,.slice ba 1 1,.slice da 1 1]);clear hq HIA5 HIB HA5 HB5;generalize w5.alloc (.cells #[.int .i64 8,.string ⟨#[97]⟩,.string ⟨#[]⟩,.slice ba 1 1,.slice da 1 1] 35) = w6 at *;generalize w5.heap.size = B at *;go_upto_region 6 with (fail)
 have hd:DeclIn (w6.alloc (.cells #[.string fName] 9)) letD (some ⟨w6.heap.size,0,none⟩) 1 none 0:=⟨strs_text w6 fName,nilRow_subs _,Nat.le_refl _,by decide,Nat.le_refl _,Nat.zero_le _⟩;have hdr:=reads_declOne hd;rw [World.size_alloc] at hdr;have hq1:=qtrans (qalloc w6 (.cells #[.string fName] 9)) (qalloc _ (.cells #[.int .i64 3,.int .i64 1,.bool false,.slice (some ⟨w6.heap.size,0,none⟩) 1 1,.bool false,.int .i64 11,.string ⟨#[]⟩,.string ⟨#[]⟩,.int .i64 0,.int .i64 0,.slice none 0 0] 69))
 have HIC0:Hid (EditIn ((w6.alloc (.cells #[.string fName] 9)).alloc (.cells #[.int .i64 3,.int .i64 1,.bool false,.slice (some ⟨w6.heap.size,0,none⟩) 1 1,.bool false,.int .i64 11,.string ⟨#[]⟩,.string ⟨#[]⟩,.int .i64 0,.int .i64 0,.slice none 0 0] 69)) cE none 0 (some ⟨w6.heap.size + 1,0,none⟩) 1):=⟨nilRow_decls _,hdr,Nat.le_refl _,Nat.zero_le _,Nat.le_refl _,by decide⟩
 have hsz:((w6.alloc (.cells #[.string fName] 9)).alloc (.cells #[.int .i64 3,.int .i64 1,.bool false,.slice (some ⟨w6.heap.size,0,none⟩) 1 1,.bool false,.int .i64 11,.string ⟨#[]⟩,.string ⟨#[]⟩,.int .i64 0,.int .i64 0,.slice none 0 0] 69)).heap.size = w6.heap.size + 1 + 1:=by simp only [World.size_alloc]
 have HQ1:=lH hq1;clear hd hdr hq1;unfold fName at HIC0 HQ1 hsz;generalize ((w6.alloc (.cells #[.string ⟨#[102]⟩] 9)).alloc (.cells #[.int .i64 3,.int .i64 1,.bool false,.slice (some ⟨w6.heap.size,0,none⟩) 1 1,.bool false,.int .i64 11,.string ⟨#[]⟩,.string ⟨#[]⟩,.int .i64 0,.int .i64 0,.slice none 0 0] 69)) = v6 at *;generalize w6.heap.size + 1 + 1 = C at *;generalize hcr:some (⟨w6.heap.size + 1,0,none⟩:Addr) = ca at *;clear hcr;have hq:=qalloc v6 (.cells #[.int .i64 5,.string ⟨#[97]⟩,.string ⟨#[]⟩,.slice none 0 0,.slice ca 1 1] 35)
 have HQ2:=lH (qtrans HQ1.out hq);have HIC:=lH (HIC0.out.below hq);have HC7:=lH (CBox.new v6 35 #[.int .i64 5,.string ⟨#[97]⟩,.string ⟨#[]⟩,.slice none 0 0,.slice ca 1 1]);rw [hsz] at HC7;clear hsz hq HIC0 HQ1;generalize v6.alloc (.cells #[.int .i64 5,.string ⟨#[97]⟩,.string ⟨#[]⟩,.slice none 0 0,.slice ca 1 1] 35) = w7 at *;have HB7:=lH (qtrans HB6.out HQ2.out);have HIA7:=lH (HIA6.out.below HQ2.out);have HIB7:=lH (HIB6.out.below HQ2.out);have HA7:=lH (HA6.out.below HQ2.out);have HBB7:=lH (HBB6.out.below HQ2.out);clear HQ2 HIA6 HIB6 HA6 HBB6 HB6
 have a0:=HA7.out.cell (i:=0) (v:=.int .i64 7) rfl;have b0:=HBB7.out.cell (i:=0) (v:=.int .i64 8) rfl;have a1:=HA7.out.cell (i:=1) (v:=.string ⟨#[97]⟩) rfl;have b1:=HBB7.out.cell (i:=1) (v:=.string ⟨#[97]⟩) rfl;have a2:=HA7.out.cell (i:=2) (v:=.string ⟨#[]⟩) rfl;have b2:=HBB7.out.cell (i:=2) (v:=.string ⟨#[]⟩) rfl;have a3:=HA7.out.cell (i:=3) (v:=.slice fa 1 1) rfl;have b3:=HBB7.out.cell (i:=3) (v:=.slice ba 1 1) rfl;have a4:=HA7.out.cell (i:=4) (v:=.slice ga 1 1) rfl;have b4:=HBB7.out.cell (i:=4) (v:=.slice da 1 1) rfl
 have al:=HA7.out.lt;have bl:=HBB7.out.lt;have hs1:swapV aE bE fa 1 ga 1 ba 1 da 1 = .tuple #[.agg #[.int .i64 8,.string ⟨#[97]⟩,.string ⟨#[]⟩,.slice ba 1 1,.slice da 1 1],.agg #[.int .i64 7,.string ⟨#[97]⟩,.string ⟨#[]⟩,.slice fa 1 1,.slice ga 1 1],.bool true]:=by unfold swapV;rw [ab_swap];rfl
 have hs2:swapV cE aE none 0 ca 1 fa 1 ga 1 = .tuple #[.agg #[.int .i64 0,.string ⟨#[]⟩,.string ⟨#[]⟩,.slice none 0 0,.slice none 0 0],.agg #[.int .i64 0,.string ⟨#[]⟩,.string ⟨#[]⟩,.slice none 0 0,.slice none 0 0],.bool false]:=by unfold swapV;rw [ca_swap];rfl
 have HS1:=lH (cSwap_any aE bE fa 1 ga 1 ba 1 da 1 w7 HIA7.out HIB7.out aE_sm bE_sm);have HS2:=lH (fun W (h:Below w7.heap.size w7 W) => cSwap_any cE aE none 0 ca 1 fa 1 ga 1 W (HIC.out.below h) (HIA7.out.below h) cE_sm aE_sm);rw [hs1] at HS1;rw [hs2] at HS2;clear hs1 hs2;go_wp2_with (fail)
 refine HS1.out.mono ?_;rintro r w8 ⟨rfl,hb8⟩;have HB78:=lH hb8;clear a0 a1 a2 a3 a4 b0 b1 b2 b3 b4 al bl hb8 HS1;go_upto_region 7 with (fail)
 obtain ⟨x1,x2,x3⟩:=two_boxes w8 35 #[.int .i64 8,.string ⟨#[97]⟩,.string ⟨#[]⟩,.slice ba 1 1,.slice da 1 1] #[.int .i64 7,.string ⟨#[97]⟩,.string ⟨#[]⟩,.slice fa 1 1,.slice ga 1 1];have HB79:=lH (qtrans HB78.out x3);have HX:=lH x1;have HY:=lH x2;clear x1 x2 x3 HB78;generalize (w8.alloc (.cells #[.int .i64 8,.string ⟨#[97]⟩,.string ⟨#[]⟩,.slice ba 1 1,.slice da 1 1] 35)).alloc (.cells #[.int .i64 7,.string ⟨#[97]⟩,.string ⟨#[]⟩,.slice fa 1 1,.slice ga 1 1] 35) = w9 at *;generalize w8.heap.size + 1 = Y at *;generalize w8.heap.size = X at *
 have a0:=(HA7.out.below HB79.out).cell (i:=0) (v:=.int .i64 7) rfl;have c0:=(HC7.out.below HB79.out).cell (i:=0) (v:=.int .i64 5) rfl;have a1:=(HA7.out.below HB79.out).cell (i:=1) (v:=.string ⟨#[97]⟩) rfl;have c1:=(HC7.out.below HB79.out).cell (i:=1) (v:=.string ⟨#[97]⟩) rfl;have a2:=(HA7.out.below HB79.out).cell (i:=2) (v:=.string ⟨#[]⟩) rfl;have c2:=(HC7.out.below HB79.out).cell (i:=2) (v:=.string ⟨#[]⟩) rfl;have a3:=(HA7.out.below HB79.out).cell (i:=3) (v:=.slice fa 1 1) rfl
 have c3:=(HC7.out.below HB79.out).cell (i:=3) (v:=.slice none 0 0) rfl;have a4:=(HA7.out.below HB79.out).cell (i:=4) (v:=.slice ga 1 1) rfl;have c4:=(HC7.out.below HB79.out).cell (i:=4) (v:=.slice ca 1 1) rfl;have al:=(HA7.out.below HB79.out).lt;have cl:=(HC7.out.below HB79.out).lt;go_wp2_with (fail)
 refine (HS2.out _ HB79.out).mono ?_;rintro r w10 ⟨rfl,hb10⟩;have HB910:=lH hb10;clear a0 a1 a2 a3 a4 c0 c1 c2 c3 c4 al cl hb10 HS2;go_upto_region 8 with (fail)
 obtain ⟨-,-,x3⟩:=two_boxes w10 35 #[.int .i64 0,.string ⟨#[]⟩,.string ⟨#[]⟩,.slice none 0 0,.slice none 0 0] #[.int .i64 0,.string ⟨#[]⟩,.string ⟨#[]⟩,.slice none 0 0,.slice none 0 0];have HB911:=lH (qtrans HB910.out x3);have HB711:=lH (qtrans HB79.out HB911.out);clear x3 HB910;generalize (w10.alloc (.cells #[.int .i64 0,.string ⟨#[]⟩,.string ⟨#[]⟩,.slice none 0 0,.slice none 0 0] 35)).alloc (.cells #[.int .i64 0,.string ⟨#[]⟩,.string ⟨#[]⟩,.slice none 0 0,.slice none 0 0] 35) = w11 at *;generalize w10.heap.size + 1 = U at *;generalize w10.heap.size = V at *
 have a0:=(HA7.out.below HB711.out).cell (i:=0) (v:=.int .i64 7) rfl;have c0:=(HC7.out.below HB711.out).cell (i:=0) (v:=.int .i64 5) rfl;have a1:=(HA7.out.below HB711.out).cell (i:=1) (v:=.string ⟨#[97]⟩) rfl;have c1:=(HC7.out.below HB711.out).cell (i:=1) (v:=.string ⟨#[97]⟩) rfl;have a2:=(HA7.out.below HB711.out).cell (i:=2) (v:=.string ⟨#[]⟩) rfl;have c2:=(HC7.out.below HB711.out).cell (i:=2) (v:=.string ⟨#[]⟩) rfl;have a3:=(HA7.out.below HB711.out).cell (i:=3) (v:=.slice fa 1 1) rfl
 have c3:=(HC7.out.below HB711.out).cell (i:=3) (v:=.slice none 0 0) rfl;have a4:=(HA7.out.below HB711.out).cell (i:=4) (v:=.slice ga 1 1) rfl;have c4:=(HC7.out.below HB711.out).cell (i:=4) (v:=.slice ca 1 1) rfl;have al:=(HA7.out.below HB711.out).lt;have cl:=(HC7.out.below HB711.out).lt;have hrd:=edits_two w11 cE aE none 0 ca 1 fa 1 ga 1 (HIC.out.below HB711.out) (HIA7.out.below HB711.out)
 have HN:=lH (cNeeds_any [cE,aE] 1 _ 2 _ hrd (fun e he => by simp only [List.mem_cons,List.not_mem_nil,or_false] at he;rcases he with rfl | rfl;exact cE_sm;exact aE_sm) (by decide));rw [ca_check,ca_needs] at HN;clear hrd;go_wp2_with (fail)
 refine HN.out.mono ?_;rintro r w12 ⟨lv,rfl,hi12,hb12⟩;have HI12:=lH hi12;have HB12:=lH (qtrans HB711.out (qtrans (qalloc _ _) hb12));have HB9b:=lH (qtrans HB911.out (qtrans (qalloc _ _) hb12));clear a0 a1 a2 a3 a4 c0 c1 c2 c3 c4 al cl hi12 hb12 HN HB711 HB911;have a0:=(HX.out.below HB9b.out).cell (i:=0) (v:=.int .i64 8) rfl;have b0:=(HBB7.out.below HB12.out).cell (i:=0) (v:=.int .i64 8) rfl;have a1:=(HX.out.below HB9b.out).cell (i:=1) (v:=.string ⟨#[97]⟩) rfl;have b1:=(HBB7.out.below HB12.out).cell (i:=1) (v:=.string ⟨#[97]⟩) rfl
 have a2:=(HX.out.below HB9b.out).cell (i:=2) (v:=.string ⟨#[]⟩) rfl;have b2:=(HBB7.out.below HB12.out).cell (i:=2) (v:=.string ⟨#[]⟩) rfl;have a3:=(HX.out.below HB9b.out).cell (i:=3) (v:=.slice ba 1 1) rfl;have b3:=(HBB7.out.below HB12.out).cell (i:=3) (v:=.slice ba 1 1) rfl;have a4:=(HX.out.below HB9b.out).cell (i:=4) (v:=.slice da 1 1) rfl;have b4:=(HBB7.out.below HB12.out).cell (i:=4) (v:=.slice da 1 1) rfl;have al:=(HX.out.below HB9b.out).lt;have bl:=(HBB7.out.below HB12.out).lt
 have HE1:=lH (r34Same_any bE bE ba 1 da 1 ba 1 da 1 w12 (HIB7.out.below HB12.out) (HIB7.out.below HB12.out) bE_sm);rw [sameE_iff.2 (rfl:bE = bE)] at HE1;go_wp2_with (fail)
 refine HE1.out.mono ?_;rintro r w13 ⟨rfl,hb13⟩;have HB13:=lH (qtrans HB12.out hb13);have HB9c:=lH (qtrans HB9b.out hb13);have HI13:=lH (HI12.out.below hb13);clear a0 a1 a2 a3 a4 b0 b1 b2 b3 b4 al bl hb13 HE1 HI12;have a0:=(HA7.out.below HB13.out).cell (i:=0) (v:=.int .i64 7) rfl;have b0:=(HY.out.below HB9c.out).cell (i:=0) (v:=.int .i64 7) rfl;have a1:=(HA7.out.below HB13.out).cell (i:=1) (v:=.string ⟨#[97]⟩) rfl;have b1:=(HY.out.below HB9c.out).cell (i:=1) (v:=.string ⟨#[97]⟩) rfl
 have a2:=(HA7.out.below HB13.out).cell (i:=2) (v:=.string ⟨#[]⟩) rfl;have b2:=(HY.out.below HB9c.out).cell (i:=2) (v:=.string ⟨#[]⟩) rfl;have a3:=(HA7.out.below HB13.out).cell (i:=3) (v:=.slice fa 1 1) rfl;have b3:=(HY.out.below HB9c.out).cell (i:=3) (v:=.slice fa 1 1) rfl;have a4:=(HA7.out.below HB13.out).cell (i:=4) (v:=.slice ga 1 1) rfl;have b4:=(HY.out.below HB9c.out).cell (i:=4) (v:=.slice ga 1 1) rfl;have al:=(HA7.out.below HB13.out).lt;have bl:=(HY.out.below HB9c.out).lt
 have HE2:=lH (r34Same_any aE aE fa 1 ga 1 fa 1 ga 1 w13 (HIA7.out.below HB13.out) (HIA7.out.below HB13.out) aE_sm);rw [sameE_iff.2 (rfl:aE = aE)] at HE2;go_wp2_with (fail)
 refine HE2.out.mono ?_;rintro r w14 ⟨rfl,hb14⟩;have HB14:=lH (qtrans HB13.out hb14);have hq:=qalloc w14 (.cells #[.int .i64 0] 3);have HSI:=lH (rSameInts_any [0] [0] lv _ _ ((HI13.out.below hb14).below hq) (ints_zero w14) (by decide) (by decide));rw [sameIs_iff.2 (rfl:([0]:List Int) = [0])] at HSI;clear a0 a1 a2 a3 a4 b0 b1 b2 b3 b4 al bl hb14 HE2;go_wp2_with (fail)
 refine HSI.out.mono ?_;rintro r w15 ⟨rfl,hb15⟩;have HF:=lH (qtrans HB7.out (qtrans HB14.out (qtrans hq hb15)));clear hq hb15;go_wp2;go_ret;exact ⟨rfl,HF.out⟩
end Go.Proofs.YtdpnfkjafhbndaaGreatDoor
namespace Go.Proofs.YtdpnfkjafhbndaaGreatDoor
open Go.RowKit
inductive Reach (l:List OEdit) (i:Nat):Nat→Prop
  | one {k:Nat}:k < i→dep l k i = true→Reach l i k
  | more {k m:Nat}:k < m→dep l k m = true→Reach l i m→Reach l i k
theorem Reach.lt {l:List OEdit} {i k:Nat} (h:Reach l i k):k < i:=by
 induction h with
 | one h _ => exact h
 | more h _ _ ih => omega
theorem Reach.trans {l:List OEdit} {i q k:Nat} (h:Reach l q k) (g:Reach l i q):Reach l i k:=by
 induction h with
 | one h1 h2 => exact .more h1 h2 g
 | more h1 h2 _ ih => exact .more h1 h2 ih
theorem Reach.step {l:List OEdit} {i k:Nat}:Reach l i k↔k < i∧(dep l k i = true∨∃ m,k < m∧m < i∧Reach l i m∧dep l k m = true):=by
 constructor
 ·intro h
  have hl:=h.lt
  cases h with
  | one h1 h2 => exact ⟨h1,.inl h2⟩
  | more h1 h2 h3 => exact ⟨hl,.inr ⟨_,h1,h3.lt,h3,h2⟩⟩
 ·rintro ⟨h,h1 | ⟨m,h2,h3,h4,h5⟩⟩
  ·exact .one h h1
  ·exact .more h2 h5 h4
def metB (m:List Bool) (k:Nat):Prop:=m.getD k false = true
def Closed (l:List OEdit) (b:Nat) (m:List Bool):Prop:=∀ j,j < b→metB m j→∀ k,k < j→dep l k j = true→metB m k
theorem metB_set {m:List Bool} {i:Nat} (h:i < m.length) (k:Nat):metB (m.set i true) k↔k = i∨metB m k:=by
 unfold metB;rw [List.getD_eq_getElem?_getD,List.getD_eq_getElem?_getD,List.getElem?_set]
 by_cases hk:i = k
 ·subst hk;simp [h]
 ·rw [if_neg hk]
  constructor
  ·intro h;exact .inr h
  ·rintro (h | h)
   ·exact absurd h.symm hk
   ·exact h
structure Found (l:List OEdit) (b i:Nat) (m r:List Bool):Prop where
 len:r.length = m.length
 mono:∀ k,metB m k→metB r k
 closed:Closed l b r
 high:∀ k,i≤k→(metB r k↔metB m k)
 new:∀ k,metB r k→metB m k∨Reach l i k
theorem scan_found (l:List OEdit) (vis:Nat→List Bool→List Bool) (i:Nat)
  (hv:∀ q m,q < i→q < m.length→Closed l q m→(vis q m).length = m.length∧(∀ k,metB m k→metB (vis q m) k)∧metB (vis q m) q∧Closed l (q + 1) (vis q m)∧(∀ k,q < k→(metB (vis q m) k↔metB m k))∧∀ k,metB (vis q m) k→metB m k∨k = q∨Reach l q k) :
  ∀ q m,q≤i→i < m.length→Closed l i m→(∀ k,q≤k→k < i→dep l k i = true→metB m k) →
   Found l i i m (scanV l vis i q m)∧∀ k,k < i→dep l k i = true→metB (scanV l vis i q m) k
 | 0,m,_,_,hc,hd => ⟨⟨rfl,fun _ h => h,hc,fun _ _ => Iff.rfl,fun _ h => .inl h⟩,fun k hk hdp => hd k (Nat.zero_le _) hk hdp⟩
 | q + 1,m,hq,hi,hc,hd => by
  rw [scanV]
  cases hz:(!(m.getD q false) && dep l q i) with
  | false =>
   rw [if_neg (by simp)];refine scan_found l vis i hv q m (by omega) hi hc (fun k h1 h2 h3 => ?_)
   rcases Nat.lt_or_ge q k with h | h
   ·exact hd k h h2 h3
   ·obtain rfl:k = q:=by omega
    unfold metB
    cases hm:m.getD k false with
    | true => rfl
    | false => rw [hm,h3] at hz;cases hz
  | true =>
   rw [if_pos rfl];rw [Bool.and_eq_true] at hz;obtain ⟨v1,v2,v3,v4,v5,v6⟩:=hv q m (by omega) (by omega) (fun j hj => hc j (by omega))
   have hcl:Closed l i (vis q m):=by
    intro j hj hm k hk hdp
    rcases Nat.lt_or_ge q j with h | h
    ·exact v2 k (hc j hj ((v5 j h).1 hm) k hk hdp)
    ·exact v4 j (by omega) hm k hk hdp
   obtain ⟨F,G⟩:=scan_found l vis i hv q (vis q m) (by omega) (by omega) hcl (fun k h1 h2 h3 => by
    rcases Nat.lt_or_ge q k with h | h
    ·exact v2 k (hd k h h2 h3)
    ·obtain rfl:k = q:=by omega
     exact v3)
   have hr:Reach l i q:=.one (by omega) hz.2;refine ⟨⟨by rw [F.len,v1],fun k h => F.mono k (v2 k h),F.closed,fun k hk => (F.high k hk).trans (v5 k (by omega)),fun k h => ?_⟩,G⟩
   rcases F.new k h with h | h
   ·rcases v6 k h with h | rfl | h
    ·exact .inl h
    ·exact .inr hr
    ·exact .inr (h.trans hr)
   ·exact .inr h
theorem visit_found (l:List OEdit):∀ (f i:Nat) (m:List Bool),i < f→i < m.length→Closed l i m →
  (visitG l f i m).length = m.length∧(∀ k,metB m k→metB (visitG l f i m) k)∧metB (visitG l f i m) i∧Closed l (i + 1) (visitG l f i m)∧(∀ k,i < k→(metB (visitG l f i m) k↔metB m k))∧∀ k,metB (visitG l f i m) k→metB m k∨k = i∨Reach l i k
 | 0,i,m,h,_,_ => by omega
 | f + 1,i,m,h,hi,hc => by
  rw [visitG];have hi':i < (m.set i true).length:=by rw [List.length_set];exact hi
  have hc':Closed l i (m.set i true):=by
   intro j hj hm k hk hd
   rcases (metB_set hi j).1 hm with rfl | h1
   ·omega
   ·exact (metB_set hi k).2 (.inr (hc j hj h1 k hk hd))
  obtain ⟨F,G⟩:=scan_found l (visitG l f) i (fun q m hq hm hcl => visit_found l f q m (by omega) hm hcl) i (m.set i true) (Nat.le_refl _) hi' hc' (fun k h1 h2 _ => by omega);have hii:metB (scanV l (visitG l f) i i (m.set i true)) i:=F.mono i ((metB_set hi i).2 (.inl rfl));refine ⟨by rw [F.len,List.length_set],fun k hk => F.mono k ((metB_set hi k).2 (.inr hk)),hii,?_,?_,?_⟩
  ·intro j hj hm k hk hd
   rcases Nat.lt_or_ge j i with h1 | h1
   ·exact F.closed j h1 hm k hk hd
   ·obtain rfl:j = i:=by omega
    exact G k hk hd
  ·intro k hk
   rw [F.high k (by omega),metB_set hi k]
   constructor
   ·rintro (h1 | h1)
    ·omega
    ·exact h1
   ·exact .inr
  ·intro k hk
   rcases F.new k hk with h1 | h1
   ·rcases (metB_set hi k).1 h1 with h2 | h2
    ·exact .inr (.inl h2)
    ·exact .inl h2
   ·exact .inr (.inr h1)
theorem metB_none (n k:Nat):¬ metB (List.replicate n false) k:=by
 unfold metB;rw [List.getD_eq_getElem?_getD,List.getElem?_replicate];split <;> simp
theorem needB_iff {l:List OEdit} {i:Nat} (hi:i < l.length) (k:Nat):(needB l i).getD k false = true↔k = i∨Reach l i k:=by
  obtain ⟨h1,h2,h3,h4,h5,h6⟩:=visit_found l l.length i (List.replicate l.length false) hi (by simpa using hi) (fun j _ hm => absurd hm (metB_none _ _))
  constructor
  · intro h
    rcases h6 k h with h | h | h
    · exact absurd h (metB_none _ _)
    · exact .inl h
    · exact .inr h
  · rintro (rfl | h)
    · exact h3
    · induction h with
      | one g1 g2 => exact h4 i (by omega) h3 _ g1 g2
      | more g1 g2 g3 ih => exact h4 _ (by have:=g3.lt;omega) ih _ g1 g2
end Go.Proofs.YtdpnfkjafhbndaaGreatDoor
namespace Go.Proofs.YtdpnfkjafhbndaaGreatDoor
open Go.RowKit Go.Shelf
attribute [local go_sem] Oper.semAt_some
end Go.Proofs.YtdpnfkjafhbndaaGreatDoor
namespace Go.Proofs.YtdpnfkjafhbndaaGreatDoor
open Go.RowKit Go.Shelf
attribute [local go_sem] Oper.semAt_some
theorem metC_setb (m:List Bool) (i:Nat) (b:Bool):(metC m).setIfInBounds i (.bool b) = metC (m.set i b):=by
 unfold metC;rw [List.setIfInBounds_toArray,List.map_set]
theorem metB_setb {m:List Bool} {i:Nat} {b:Bool} (h:i < m.length) (k:Nat):metB (m.set i b) k↔(k = i∧b = true)∨(k≠i∧metB m k):=by
 unfold metB;rw [List.getD_eq_getElem?_getD,List.getD_eq_getElem?_getD,List.getElem?_set]
 by_cases hk:i = k
 ·subst hk;simp [h]
 ·rw [if_neg hk]
  constructor
  ·intro h;exact .inr ⟨fun e => hk e.symm,h⟩
  ·rintro (h | h)
   ·exact absurd h.1.symm hk
   ·exact h.2
theorem eAt_in {l:List OEdit} {k:Nat} (h:k < l.length):eAt l k∈l:=by rw [eAt_of (List.getElem?_eq_getElem h)];exact List.getElem_mem h
theorem swap_dep {l:List OEdit} (hE:∀ e∈l,editErr e = 0) {k i:Nat} (hk:k < l.length) (hi:i < l.length):(!swapB (eAt l k) (eAt l i)) = dep l k i:=by
 unfold swapB dep;rw [hE _ (eAt_in hk),hE _ (eAt_in hi)];rfl
end Go.Proofs.YtdpnfkjafhbndaaGreatDoor
namespace Go.Proofs.YtdpnfkjafhbndaaGreatDoor
open Go.RowKit Go.Shelf
attribute [local go_sem] Oper.semAt_some
theorem check_zero {l:List OEdit} {i:Int} (h:checkErr l i = 0):(∀ e∈l,editErr e = 0)∧0≤i∧i < (l.length:Int):=by
 unfold checkErr at h;split at h
 ·rename_i h1
  split at h
  ·cases h
  ·rename_i h2
   refine ⟨fun e he => ?_,by omega,by omega⟩;obtain ⟨k,hk,rfl⟩:=List.mem_iff_getElem.1 he;unfold listErr at h1;have:=nz_zero.1 h1 k hk;rwa [eAt_of (List.getElem?_eq_getElem hk)] at this
 ·rename_i h1;exact absurd h h1
end Go.Proofs.YtdpnfkjafhbndaaGreatDoor
namespace Go.Proofs.YtdpnfkjafhbndaaGreatDoor
open Go.RowKit Go.Shelf
attribute [local go_sem] Oper.semAt_some
def partE (l:List OEdit) (p:Nat→Bool) (k:Nat):List OEdit:=((List.range k).filter p).map (eAt l)
theorem partE_succ (l:List OEdit) (p:Nat→Bool) (k:Nat):partE l p (k + 1) = partE l p k ++ (if p k then [eAt l k] else []):=by
 unfold partE;rw [List.range_succ,List.filter_append,List.map_append]
 congr 1
 rw [List.filter_cons];split <;> rfl
theorem partE_len (l:List OEdit) (p:Nat→Bool) (k:Nat):(partE l p k).length≤k:=by
 unfold partE;rw [List.length_map];exact Nat.le_trans (List.length_filter_le _ _) (by simp)
theorem partE_mem {l:List OEdit} {p:Nat→Bool} {P:OEdit→Prop} (h:∀ e∈l,P e):∀ e∈partE l p l.length,P e:=by
 intro e he;unfold partE at he;obtain ⟨k,hk,rfl⟩:=List.mem_map.1 he;have:=(List.mem_filter.1 hk).1;exact h _ (eAt_in (by simpa using this))
def pickE (l:List OEdit) (i:Nat):List OEdit:=partE l (fun k => (needB l i).getD k false) l.length
def pickOf (l:List OEdit) (i:Int):List OEdit:=if checkErr l i = 0 then pickE l i.toNat else []
def OwnE (w0 w:World) (B:Nat) (v:Value) (l:List OEdit):Prop:=∃ xs,w.ownsRow B 35 5 v l.length xs∧ReadsL w0 [] (l.flatMap editT) xs
theorem OwnE.below {w0 w w':World} {B:Nat} {v:Value} {l:List OEdit} (h:OwnE w0 w B v l) (m:Below w.heap.size w w'):OwnE w0 w' B v l:=by
 obtain ⟨xs,h1,h2⟩:=h;exact ⟨xs,owns_below h1 m,h2⟩
theorem OwnE.reads {w0 w:World} {B:Nat} {v:Value} {l:List OEdit} (h:OwnE w0 w B v l) (m:Below w0.heap.size w0 w):Reads w [] (editsT l) v:=by
 obtain ⟨xs,h1,h2⟩:=h;exact Reads.ofRow (owns_row h1) (fun _ b _ => by simp) (h2.below m)
theorem OwnE.nil (w0 w:World) (B:Nat):OwnE w0 w B (.slice none 0 0) []:=⟨[],World.ownsRow_nil _ _ _ _,ReadsL.nil _ _⟩
theorem OwnE.val {w0 w:World} {B:Nat} {v:Value} {l:List OEdit} (h:OwnE w0 w B v l):∃ a c,v = .slice a l.length c:=by
 obtain ⟨xs,h1,_⟩:=h;exact owns_val h1
theorem OwnE.snoc {w0 w':World} {B:Nat} {v':Value} {l:List OEdit} {e:OEdit} {xs:List Value} {ao:Option Addr} {co:Nat} {af:Option Addr} {cf:Nat} (hx:ReadsL w0 [] (l.flatMap editT) xs) (he:EditIn w0 e ao co af cf) (h:w'.ownsRow B 35 5 v' (l.length + 1) (xs ++ [.int .i64 e.kind,.string e.pack,.string e.text,.slice ao e.old.length co,.slice af e.fresh.length cf])):OwnE w0 w' B v' (l ++ [e]):=by
 refine ⟨_,by rw [List.length_append];exact h,?_⟩;rw [List.flatMap_append,List.flatMap_cons,List.flatMap_nil,List.append_nil];exact ReadsL.append (ReadsL.cons (Reads.leaf' _ _ _) (ReadsL.cons (Reads.leaf' _ _ _) (ReadsL.cons (Reads.leaf' _ _ _) (ReadsL.cons he.old (ReadsL.cons he.fresh (ReadsL.nil _ _)))))) hx
set_option maxRecDepth 100000 in
set_option maxHeartbeats 8000000 in
theorem cPick_any (l:List OEdit) (i:Int) (a:Option Addr) (c:Nat) (w:World) (hl:Reads w [] (editsT l) (.slice a l.length c)) (hs:∀ e∈l,SmE e) (hn:l.length≤1000000) :
  Calls Tryz.prog 23 #[.slice a l.length c,.int .i64 i] w fun r w' => ∃ v,r = .returned (.tuple #[v,.int .i64 (checkErr l i)])∧(∃ a' c',v = .slice a' (pickOf l i).length c')∧Reads w' [] (editsT (pickOf l i)) v∧Below w.heap.size w w':=by
 have HL:=lH hl;have HC:=lH (cCheck_any l a c i w hl hs hn);have hp:pickOf l i = if checkErr l i = 0 then pickE l i.toNat else []:=rfl;obtain ⟨i0,z,hi0,hz0,hzs,hz1,hz2⟩:=info_parts' infoEdit
 by_cases h0:checkErr l i = 0
 rotate_left
 ·rw [if_neg h0] at hp
  have q1:(checkErr l i != 0) = true:=by simp [h0]
  have HP:=lH hp;clear hp h0 hl hs;generalize pickOf l i = T at *;generalize checkErr l i = q at *
  go_enter Tryz.func23,Tryz.ntmps23
  go_wp2_with (fail)
  refine HC.out.mono ?_;rintro r w1 ⟨rfl,hb1⟩;go_wp2;go_returns;exact ⟨_,rfl,⟨none,0,by rw [HP.out];rfl⟩,by rw [HP.out];exact Reads.nilRow _ _ _ _,hb1⟩
 rw [if_pos h0] at hp;have q1:(checkErr l i != 0) = false:=by rw [h0];rfl
 have hall:listErr l = 0∧0≤i∧i < (l.length:Int):=by
  unfold checkErr at h0;split at h0
  ·rename_i h1
   split at h0
   ·cases h0
   ·rename_i h2
    exact ⟨h1,by omega,by omega⟩
  ·rename_i h1;exact absurd h0 h1
 have hF:∀ e∈l,FitE e:=by
  have key:∀ (f:Nat→Int) (n k:Nat),nzFrom f n 0 = 0→k < n→f k = 0:=by
   intro f n k h hk
   have:∀ j,j≤n→nzFrom f n 0 = 0→(∀ q,q < j→f q = 0)∧nzFrom f n j = 0:=by
    intro j
    induction j with
    | zero => intro _ h;exact ⟨fun q hq => by omega,h⟩
    | succ j ih =>
     intro hj h;obtain ⟨h1,h2⟩:=ih (by omega) h;rw [nzFrom_at f (show j < n by omega)] at h2;split at h2
     ·rename_i h3
      refine ⟨fun q hq => ?_,h2⟩
      rcases Nat.lt_or_ge q j with h4 | h4
      ·exact h1 q h4
      ·obtain rfl:q = j:=by omega
       exact h3
     ·rename_i h3;exact absurd h2 h3
   exact (this n (Nat.le_refl _) h).1 k hk
  intro e he;obtain ⟨k,hk,rfl⟩:=List.mem_iff_getElem.1 he;have:=key _ _ k hall.1 hk;rw [eAt_of (List.getElem?_eq_getElem hk)] at this;exact fit_of this
 obtain ⟨j,rfl⟩:∃ j:Nat,i = (j:Int):=⟨i.toNat,by omega⟩;rw [Int.toNat_natCast] at hp;have hj:j < l.length:=by omega
 have HN:=lH (fun W (h:Below w.heap.size w W) => cNeeded_any l j a c W (hl.below h) hF hn hj);have HP:Hid (pickOf l j = partE l (fun k => (needB l j).getD k false) l.length):=hp;have HPS:=lH (partE_succ l (fun k => (needB l j).getD k false));have HPL:=lH (partE_len l (fun k => (needB l j).getD k false));have HP0:Hid (partE l (fun k => (needB l j).getD k false) 0 = []):=rfl;have H0:=lH h0;clear hp hl hs hF hall h0;generalize pickOf l (j:Int) = T at *;generalize partE l (fun k => (needB l j).getD k false) = pf at *;generalize needB l j = mm at *
 generalize checkErr l (j:Int) = q at *
 go_enter Tryz.func23,Tryz.ntmps23
 go_wp2_with (fail)
 refine HC.out.mono ?_;rintro r w1 ⟨rfl,hb1⟩;go_wp2_with (fail)
 refine (HN.out _ hb1).mono ?_;rintro r w2 ⟨rfl,hlen,hm2,hb2⟩;have hB2:=qtrans hb1 hb2;have HL2:=lH hlen;have HM2:=lH hm2;have hsz2:=hm2.lt;generalize hMM:w1.heap.size + 1 = M at *;clear hlen hm2 hMM HC HN hb1 hb2;go_wp2
 go_loopw [7,20] (fun sv iv wr => ∃ k:Nat,k≤l.length∧iv = .int .i64 k∧Hid (OwnE w wr w2.heap.size sv (pf k))∧Hid (Below w2.heap.size w2 wr)) (fun _ iv _ => l.length - (intOf iv).toNat)
 case atStart => exact ⟨0,Nat.zero_le _,rfl,by rw [HP0.out];exact OwnE.nil _ _ _,qrefl _⟩
 case round =>
  obtain ⟨k,hkl,rfl,HO,HB⟩:=hrel
  by_cases hi:k < l.length
  ·have hd:decide ((k:Int) < (l.length:Int)) = true:=decide_eq_true (by omega)
   have hir:(k:Int) < (l.length:Int):=by omega
   have hmk:=(HM2.out.below HB.out).cell (metC_at (k:=k) (by have:=HL2.out;omega));have hml:=(HM2.out.below HB.out).lt;have HS:=lH (HPS.out k);have hlen:=HPL.out k;generalize mm.getD k false = mb at *;have HO2:=HO.out;obtain ⟨sa,sc,rfl⟩:=HO2.val;have hsw:=HB.out.size
   cases mb with
   | false =>
    rw [if_neg (by simp),List.append_nil] at HS;go_wp2;go_roundw
    case rel => exact ⟨k + 1,by omega,by go_num,by rw [HS.out];exact HO.out,HB⟩
    case measure => simp [intOf];omega
   | true =>
    rw [if_pos rfl] at HS;obtain ⟨e,he⟩:∃ e,l[k]? = some e:=⟨_,List.getElem?_eq_getElem hi⟩;rw [eAt_of he] at HS;obtain ⟨b,o,ao,co,af,cf,rfl,hbl,x0',x1',x2',x3',x4',hin⟩:=cells_edit HL.out he;have hwr:Below w.heap.size w wr:=hB2.trans (HB.out.mono hB2.size);have x0:=(hwr.cell (p:=⟨b,_,none⟩) hbl).trans x0';have x1:=(hwr.cell (p:=⟨b,_,none⟩) hbl).trans x1';have x2:=(hwr.cell (p:=⟨b,_,none⟩) hbl).trans x2';have x3:=(hwr.cell (p:=⟨b,_,none⟩) hbl).trans x3';have x4:=(hwr.cell (p:=⟨b,_,none⟩) hbl).trans x4'
    have hbr:b < wr.heap.size:=Nat.lt_of_lt_of_le hbl hwr.size;obtain ⟨xs,hown,hxs⟩:=HO.out;have HXS:=lH hxs;have HIN:=hin;have hA3:=qalloc wr (.cells #[.int .i64 e.kind,.string e.pack,.string e.text,.slice ao e.old.length co,.slice af e.fresh.length cf] 35);have HR3:=lH (owns_row (own_many wr wr.heap.size (Nat.le_refl _) 35 #[.int .i64 e.kind,.string e.pack,.string e.text,.slice ao e.old.length co,.slice af e.fresh.length cf] 5 1 rfl (by omega)));have HO3:=lH (owns_below hown hA3);have HA3:=lH hA3;have hsz3:=hA3.size
    clear hA3 HO2 x0' x1' x2' x3' x4' he hwr hown hxs;go_wp2_with (at_builtin;refine wpList_append_row rfl _ _ 23 rfl w2.heap.size 35 i0 _ 5 88 Tryz.underlying23 hi0 hz0 hz1 hz2 hzs (by decide) _ _ _ rfl HO3.out _ _ _ rfl HR3.out (by intro u hu;simp at hu;rcases hu with rfl | rfl | rfl | rfl | rfl <;> rfl) (by unfold maxLen;omega) (by omega) (by omega) ?_)
    intro v5 w5 hown5 hg5 hbk5;have HB5:=lH (((HB.out.trans (HA3.out.mono hsw))).grown hg5 (by omega) (fun x hx => (HO3.out.lt x hx).1))
    have HO5:Hid (OwnE w w5 w2.heap.size v5 (pf (k + 1))):=by
     show OwnE _ _ _ _ _
     rw [HS.out];exact OwnE.snoc HXS.out HIN.out hown5
    clear hown5 hg5 hbk5;go_wp2;go_roundw
    case rel => exact ⟨k + 1,by omega,by go_num,HO5,HB5⟩
    case measure => simp [intOf];omega
  ·have hd:decide ((k:Int) < (l.length:Int)) = false:=decide_eq_false (by omega)
   obtain rfl:k = l.length:=by omega
   have HO2:=HO.out;obtain ⟨sa,sc,rfl⟩:=HO2.val;have HRR:=lH (HO2.reads (hB2.trans (HB.out.mono hB2.size)));clear HO2;go_wp2;go_returns;exact ⟨_,by rw [H0.out];rfl,⟨sa,sc,by rw [HP.out];rfl⟩,by rw [HP.out];exact HRR.out,(hB2.trans (HB.out.mono hB2.size))⟩
end Go.Proofs.YtdpnfkjafhbndaaGreatDoor
namespace Go.Proofs.YtdpnfkjafhbndaaGreatDoor
open Go.RowKit Go.Shelf
attribute [local go_sem] Oper.semAt_some
def keepB (l:List OEdit) (i k:Nat):Bool:=!((needB l k).getD i false)
def dropE (l:List OEdit) (i:Nat):List OEdit:=partE l (keepB l i) l.length
def dropOf (l:List OEdit) (i:Int):List OEdit:=if checkErr l i = 0 then dropE l i.toNat else []
theorem keepB_same {l:List OEdit} {i:Nat} (hi:i < l.length):keepB l i i = false:=by
 unfold keepB;rw [(needB_iff hi i).2 (.inl rfl)];rfl
theorem Reach.head {l:List OEdit} {k i:Nat}:Reach l k i↔i < k∧∃ q,i≤q∧q < k∧(q = i∨Reach l q i)∧dep l q k = true:=by
  constructor
  · intro h
    refine ⟨h.lt,?_⟩
    induction h with
    | one h1 h2 => exact ⟨_,Nat.le_refl _,h1,.inl rfl,h2⟩
    | more h1 h2 h3 ih =>
      obtain ⟨q,q1,q2,q3,q4⟩:=ih
      refine ⟨q,by omega,q2,.inr ?_,q4⟩
      rcases q3 with rfl | q3
      · exact .one h1 h2
      · exact .more h1 h2 q3
  · rintro ⟨h,q,q1,q2,q3 | q3,q4⟩
    · subst q3;exact .one q2 q4
    · exact q3.trans (.one q2 q4)
end Go.Proofs.YtdpnfkjafhbndaaGreatDoor
namespace Go.Proofs.YtdpnfkjafhbndaaGreatDoor
open Go.RowKit Go.Shelf
attribute [local go_sem] Oper.semAt_some
theorem set_self_getD {B:List Bool} {k:Nat}:B.set k (B.getD k false) = B:=by
 apply List.ext_getElem?
 intro q;rw [List.getElem?_set];split
 ·rename_i h
  subst h;split
  ·rename_i h2;rw [List.getD_eq_getElem?_getD,List.getElem?_eq_getElem h2];rfl
  ·rename_i h2;rw [List.getElem?_eq_none (by omega)]
 ·rfl
theorem OwnE.mod {w0 w w':World} {B:Nat} {v:Value} {l:List OEdit} {X:List Nat} (h:OwnE w0 w B v l) (m:Mod X w w') (hx:∀ k∈X,k < B):OwnE w0 w' B v l:=by
 obtain ⟨xs,h1,h2⟩:=h;exact ⟨xs,owns_modB h1 m hx,h2⟩
set_option maxRecDepth 100000 in
set_option maxHeartbeats 8000000 in
theorem cDrop_any (l:List OEdit) (i:Int) (a:Option Addr) (c:Nat) (w:World) (hl:Reads w [] (editsT l) (.slice a l.length c)) (hs:∀ e∈l,SmE e) (hn:l.length≤1000000) :
  Calls Tryz.prog 30 #[.slice a l.length c,.int .i64 i] w fun r w' => ∃ v,r = .returned (.tuple #[v,.int .i64 (checkErr l i)])∧(∃ a' c',v = .slice a' (dropOf l i).length c')∧Reads w' [] (editsT (dropOf l i)) v∧Below w.heap.size w w':=by
 have HL:=lH hl;have HC:=lH (cCheck_any l a c i w hl hs hn);have hp:dropOf l i = if checkErr l i = 0 then dropE l i.toNat else []:=rfl;obtain ⟨i0,z,hi0,hz0,hzs,hz1,hz2⟩:=info_parts' infoEdit
 by_cases h0:checkErr l i = 0
 rotate_left
 ·rw [if_neg h0] at hp
  have q1:(checkErr l i != 0) = true:=by simp [h0]
  have HP:=lH hp;clear hp h0 hl hs;generalize dropOf l i = T at *;generalize checkErr l i = q at *
  go_enter Tryz.func30,Tryz.ntmps30
  go_wp2_with (fail)
  refine HC.out.mono ?_;rintro r w1 ⟨rfl,hb1⟩;go_wp2;go_returns;exact ⟨_,rfl,⟨none,0,by rw [HP.out];rfl⟩,by rw [HP.out];exact Reads.nilRow _ _ _ _,hb1⟩
 rw [if_pos h0] at hp;have q1:(checkErr l i != 0) = false:=by rw [h0];rfl
 obtain ⟨hE,hi1,hi2⟩:=check_zero h0;obtain ⟨j,rfl⟩:∃ j:Nat,i = (j:Int):=⟨i.toNat,by omega⟩;rw [Int.toNat_natCast] at hp;have hj:j < l.length:=by omega
 have HF:=lH (fun e (he:e∈l) => fit_of (hE e he));have HP:Hid (dropOf l j = partE l (keepB l j) l.length):=hp;have HPS:=lH (partE_succ l (keepB l j));have HPL:=lH (partE_len l (keepB l j));have HP0:Hid (partE l (keepB l j) 0 = []):=rfl;have H0:=lH h0
 have HKP:Hid (∀ k,k < l.length→(keepB l j k = false↔(k = j∨Reach l k j))):=fun k hk => by
  unfold keepB;rw [Bool.not_eq_false',needB_iff hk j];exact ⟨fun h => h.elim (fun e => .inl e.symm) .inr,fun h => h.elim (fun e => .inl e.symm) .inr⟩
 obtain ⟨ib0,hib0,hb0⟩:=Option.map_eq_some_iff.1 infoBool
 injection hb0 with hz9 hb0
 injection hb0 with hz91 hz92
 obtain ⟨z9,hz90,hzc⟩:=Option.map_eq_some_iff.1 hz9;have HMK:=lH (fun W => run_make (P:=Tryz.prog) W 92 4 ib0 z9 Tryz.underlying92 hib0 hz90 .i64 .i64 (l.length:Int) (l.length:Int) (by omega) (Int.le_refl _) (by rw [hz92];omega) (by omega));clear hp hl hs hE h0 hi1 hi2;generalize dropOf l (j:Int) = T at *;generalize partE l (keepB l j) = pf at *;generalize keepB l j = kp at *;generalize checkErr l (j:Int) = q at *
 go_enter Tryz.func30,Tryz.ntmps30
 go_wp2_with (fail)
 refine HC.out.mono ?_;rintro r w1 ⟨rfl,hb1⟩;have hmk:=HMK.out w1;simp only [Int.toNat_natCast,hz91,hzc,made_bools] at hmk
 have HB1:=lH hb1;have hjl:(j:Int) < (l.length:Int):=by omega
 clear hb1 HC HMK hz9 hz91 hz92 hz90 hzc hib0;go_upto_region 5 with (fail)
 clear hmk;have hA2:=qalloc w1 (.cells (metC (List.replicate l.length false)) 4);have hM2:=CBox.new w1 4 (metC (List.replicate l.length false));have HB2:=lH (qtrans HB1.out hA2);have hwM:=HB1.out.size;generalize w1.alloc (.cells (metC (List.replicate l.length false)) 4) = w2 at *;generalize w1.heap.size = M at *;have HM2:=lH hM2;have hc2:=hM2.cell (metC_at (k:=j) (by simpa using hj));have hf2:=hM2.frozen j;have hl2:=hM2.lt;clear hA2 hM2 HB1;go_upto_region 6 with (fail)
 have HM3:Hid (CBox (w2.setCell ⟨M,j,none⟩ (.bool true)) M 4 (metC ((List.replicate l.length false).set j true))):=by
  show CBox _ _ _ _
  rw [← metC_setb];exact HM2.out.set j _
 have HB3:Hid (Below w.heap.size w (w2.setCell ⟨M,j,none⟩ (.bool true))):=HB2.out.trans (((Mod.refl [M] w2).setCell (p:=⟨M,j,none⟩) (by simp) _).upto HB2.out.size (by intro q hq;simp at hq;omega));clear hc2 hf2 hl2 HM2 HB2;generalize w2.setCell ⟨M,j,none⟩ (.bool true) = w3 at *
 have HBS3:Hid (∀ q,metB ((List.replicate l.length false).set j true) q↔(q = j∨(q < 0∧Reach l q j))):=fun q => by
  rw [metB_set (by simpa using hj)];exact ⟨fun h => h.elim .inl (fun h => absurd h (metB_none _ _)),fun h => h.elim .inl (fun h => by omega)⟩
 have HBL3:Hid (((List.replicate l.length false).set j true).length = l.length):=by show _ = _;simp
 generalize (List.replicate l.length false).set j true = B3 at *;go_wp2
 go_loopw [8,26] (fun sv iv wr => ∃ (k:Nat) (B:List Bool),k≤l.length∧iv = .int .i64 k∧Hid (B.length = l.length)∧Hid (∀ q,metB B q↔(q = j∨(q < k∧Reach l q j)))∧Hid (CBox wr M 4 (metC B))∧Hid (OwnE w wr (M + 1) sv (pf k))∧Hid (Below w.heap.size w wr)) (fun _ iv _ => l.length - (intOf iv).toNat)
 case atStart => exact ⟨0,B3,Nat.zero_le _,rfl,HBL3,HBS3,HM3,by rw [HP0.out];exact OwnE.nil _ _ _,HB3⟩
 case round =>
  obtain ⟨k,B,hkl,rfl,HBL,HBS,HM,HO,HB⟩:=hrel;clear HBL3 HBS3 HM3 HB3
  by_cases hi:k < l.length
  ·have hd:decide ((k:Int) < (l.length:Int)) = true:=decide_eq_true (by omega)
   have hir:(k:Int) < (l.length:Int):=by omega
   obtain ⟨e,he⟩:∃ e,l[k]? = some e:=⟨_,List.getElem?_eq_getElem hi⟩;obtain ⟨b,o,ao,co,af,cf,rfl,hbl,x0',x1',x2',x3',x4',hin⟩:=cells_edit HL.out he;have x0:=(HB.out.cell (p:=⟨b,_,none⟩) hbl).trans x0';have x1:=(HB.out.cell (p:=⟨b,_,none⟩) hbl).trans x1';have x2:=(HB.out.cell (p:=⟨b,_,none⟩) hbl).trans x2';have x3:=(HB.out.cell (p:=⟨b,_,none⟩) hbl).trans x3';have x4:=(HB.out.cell (p:=⟨b,_,none⟩) hbl).trans x4';have hbr:b < wr.heap.size:=Nat.lt_of_lt_of_le hbl HB.out.size;have HEE:=lH he
   have hA:=qalloc wr (.cells #[.int .i64 e.kind,.string e.pack,.string e.text,.slice ao e.old.length co,.slice af e.fresh.length cf] 35);have HX:=lH (CBox.new wr 35 #[.int .i64 e.kind,.string e.pack,.string e.text,.slice ao e.old.length co,.slice af e.fresh.length cf]);have HMA:=lH (HM.out.below hA);have HOA:=lH (HO.out.below hA);have HBA:=lH (HB.out.trans (hA.mono HB.out.size));have hMX:=HM.out.lt;have HLEN:=lH (HPL.out k);have HSV:=lH HO.out.val;clear he x0' x1' x2' x3' x4' hA HM HO HB;go_upto_region 10 with (fail)
   generalize wr.alloc (.cells #[.int .i64 e.kind,.string e.pack,.string e.text,.slice ao e.old.length co,.slice af e.fresh.length cf] 35) = wo at *;generalize wr.heap.size = X at *;clear x0 x1 x2 x3 x4 hbr;go_wp2
   go_loopw [11] (fun jv wr => ∃ (m:Nat) (bb:Bool),j≤m∧(m = j∨m≤k)∧jv = .int .i64 (m:Int)∧Hid (bb = true↔(k = j∨∃ q,j≤q∧q < m∧q < k∧metB B q∧dep l q k = true))∧Hid (CBox wr M 4 (metC (B.set k bb)))∧Hid (Mod [M] wo wr)) (fun jv _ => k - (intOf jv).toNat)
   case atStart => exact ⟨j,B.getD k false,Nat.le_refl _,.inl rfl,rfl,(HBS.out k).trans ⟨fun h => h.elim .inl (fun h => by omega),fun h => h.elim .inl (fun ⟨q,q1,q2,_⟩ => by omega)⟩,by rw [set_self_getD];exact HMA.out,Mod.refl _ _⟩
   case round =>
    obtain ⟨m,bb,hjm,hmk,rfl,HBB,HM,HMO⟩:=hrel;have hml:=HM.out.lt;have z0:=HM.out.cell (metC_at (k:=k) (by have:=HBL.out;simp;omega));rw [show (B.set k bb).getD k false = bb by rw [List.getD_eq_getElem?_getD,List.getElem?_set_self (by have:=HBL.out;omega)];rfl] at z0
    by_cases hgo:m < k∧bb = false
    ·obtain ⟨hmk2,rfl⟩:=hgo
     have hd2:decide ((m:Int) < (k:Int)) = true:=decide_eq_true (by omega);have hd3:decide (m < k) = true:=decide_eq_true hmk2;have hmn:m < l.length:=by omega
     have hml':(m:Int) < (l.length:Int):=by omega
     obtain ⟨g,hg⟩:∃ g,l[m]? = some g:=⟨_,List.getElem?_eq_getElem hmn⟩;obtain ⟨b2,o2,go,gc,gf,gd,ha,hbl2,y0,y1,y2,y3,y4,hig⟩:=cells_edit HL.out hg
     injection ha with ha
     injection ha with ha1 ha2
     subst ha1 ha2;have HWR:=lH (HBA.out.trans (HMO.out.upto HBA.out.size (by intro q hq;simp at hq;omega)));have HC:=lH (fun w' (h':Below w.heap.size w w') => cIndep_any g e go gc gf gd ao co af cf w' (hig.out.below h') (hin.out.below h') (HF.out g (List.mem_of_getElem? hg)) (HF.out e (List.mem_of_getElem? HEE.out)));have hdp:(!indepB g e) = dep l m k:=by unfold dep;rw [eAt_of hg,eAt_of HEE.out]
     have HDP:=lH hdp;have HBM:=lH (show B.getD m false = true↔_ from HBS.out m)
     have HN:Hid ((B.getD m false && dep l m k) = true↔(k = j∨∃ q,j≤q∧q < m + 1∧q < k∧metB B q∧dep l q k = true)):=by
      show _↔_
      have h1:=HBB.out;rw [Bool.and_eq_true]
      constructor
      ·rintro ⟨h2,h3⟩;exact .inr ⟨m,hjm,by omega,hmk2,h2,h3⟩
      ·rintro (h2 | ⟨q,q1,q2,q3,q4,q5⟩)
       ·exact absurd (h1.2 (.inl h2)) (by simp)
       ·rcases Nat.lt_or_ge q m with h5 | h5
        ·exact absurd (h1.2 (.inr ⟨q,q1,h5,q3,q4,q5⟩)) (by simp)
        ·obtain rfl:q = m:=by omega
         exact ⟨q4,q5⟩
     have z1:=HM.out.cell (metC_at (k:=m) (by have:=HBL.out;simp;omega));rw [show (B.set k false).getD m false = B.getD m false by rw [List.getD_eq_getElem?_getD,List.getElem?_set_ne (by omega),← List.getD_eq_getElem?_getD]] at z1;have hXr:=HX.out.mod HMO.out (by simp;omega);have HXR:=lH hXr;have HMX:=lH hMX;clear hig hg hdp hbl2 hXr HBM;unfold editV at HC;generalize indepB g e = ib at *;generalize B.getD m false = mb at *
     have SW:Hid (∀ W:World,Below wr.heap.size wr W→(W.cell? ⟨b,o + m * 5,none⟩ = some (.int .i64 g.kind)∧W.cell? ⟨b,o + m * 5 + 1,none⟩ = some (.string g.pack)∧W.cell? ⟨b,o + m * 5 + 2,none⟩ = some (.string g.text)∧W.cell? ⟨b,o + m * 5 + 3,none⟩ = some (.slice go g.old.length gc)∧W.cell? ⟨b,o + m * 5 + 4,none⟩ = some (.slice gf g.fresh.length gd)∧W.cell? ⟨X,0,none⟩ = some (.int .i64 e.kind)∧W.cell? ⟨X,1,none⟩ = some (.string e.pack)∧W.cell? ⟨X,2,none⟩ = some (.string e.text)∧W.cell? ⟨X,3,none⟩ = some (.slice ao e.old.length co)∧W.cell? ⟨X,4,none⟩ = some (.slice af e.fresh.length cf)∧W.cell? ⟨M,m,none⟩ = some (.bool mb)∧b < W.heap.size∧X < W.heap.size∧M < W.heap.size)):=lH (fun W hW => by
      have q:=HWR.out.trans (hW.mono HWR.out.size);have hX2:=HXR.out.below hW
      exact ⟨(q.cell (p:=⟨b,_,none⟩) hbl).trans y0,(q.cell (p:=⟨b,_,none⟩) hbl).trans y1,(q.cell (p:=⟨b,_,none⟩) hbl).trans y2,(q.cell (p:=⟨b,_,none⟩) hbl).trans y3,(q.cell (p:=⟨b,_,none⟩) hbl).trans y4,hX2.cell (i:=0) rfl,hX2.cell (i:=1) rfl,hX2.cell (i:=2) rfl,hX2.cell (i:=3) rfl,hX2.cell (i:=4) rfl,(hW.cell (p:=⟨M,_,none⟩) hml).trans z1,Nat.lt_of_lt_of_le hbl q.size,hX2.lt,Nat.lt_of_lt_of_le hml hW.size⟩)
     have hdr:Below wr.heap.size wr wr.drew:=(Mod.refl [] wr).drew.below;clear y0 y1 y2 y3 y4 z1;go_upto_region 13 with (fail)
     clear z0
     refine wp_region_noPanic (region_lexT (fun W:World => W.cell? ⟨b,o + m * 5,none⟩ = some (.int .i64 g.kind)∧W.cell? ⟨b,o + m * 5 + 1,none⟩ = some (.string g.pack)∧W.cell? ⟨b,o + m * 5 + 2,none⟩ = some (.string g.text)∧W.cell? ⟨b,o + m * 5 + 3,none⟩ = some (.slice go g.old.length gc)∧W.cell? ⟨b,o + m * 5 + 4,none⟩ = some (.slice gf g.fresh.length gd)∧W.cell? ⟨X,0,none⟩ = some (.int .i64 e.kind)∧W.cell? ⟨X,1,none⟩ = some (.string e.pack)∧W.cell? ⟨X,2,none⟩ = some (.string e.text)∧W.cell? ⟨X,3,none⟩ = some (.slice ao e.old.length co)∧W.cell? ⟨X,4,none⟩ = some (.slice af e.fresh.length cf)∧W.cell? ⟨M,m,none⟩ = some (.bool mb)∧b < W.heap.size∧X < W.heap.size∧M < W.heap.size) [true,true,true,true,true,true,true,true,true,true,true,true,false,true,true,true] mixedK (by kernel_rfl) (fun _ _ _ _ _ h => h) (SW.out _ hdr) (fun hHeld => ?_))
     cases mb with
     | false =>
      iterate 16 (first | (refine lexT_skip (by rfl) ?_;(try simp only [Act.put,List.setIfInBounds_toArray,List.set_cons_zero,List.set_cons_succ])) | (refine lexT_take (v:=?_) (by rfl) ?_ ?_;rotate_left;(focus (intro wq hSw;(try dsimp only at hSw);go_simp;(try with_reducible rfl)));(try simp only [Act.put,List.setIfInBounds_toArray,List.set_cons_zero,List.set_cons_succ])))
      refine lexT_end ?_;clear hHeld;generalize wr.drew = wd at *;have g0:=HM.out.below hdr;have hc0:=g0.cell (metC_at (k:=k) (by have:=HBL.out;simp;omega));have hfz:=g0.frozen k;have hgl:=g0.lt;have HO4:=lH (HMO.out.trans (Mod.of hdr));have HG:=lH g0;clear g0 SW
      have HC9:Hid (CBox (wd.setCell ⟨M,k,none⟩ (.bool false)) M 4 (metC (B.set k (false && dep l m k)))):=by
       show CBox _ _ _ _
       have q:=HG.out.set k (.bool false);rw [metC_setb,List.set_set] at q;exact q
      have HO9:=lH (HO4.out.setCell (p:=⟨M,k,none⟩) (by simp) (.bool false));go_wp2;refine NoPanic.normal ?_;go_wp2;go_roundw
      case rel => exact ⟨m + 1,false && dep l m k,by omega,by omega,by go_num,HN,HC9,HO9⟩
      case measure => simp [intOf];omega
     | true =>
      iterate 12 (first | (refine lexT_skip (by rfl) ?_;(try simp only [Act.put,List.setIfInBounds_toArray,List.set_cons_zero,List.set_cons_succ])) | (refine lexT_take (v:=?_) (by rfl) ?_ ?_;rotate_left;(focus (intro wq hSw;(try dsimp only at hSw);go_simp;(try with_reducible rfl)));(try simp only [Act.put,List.setIfInBounds_toArray,List.set_cons_zero,List.set_cons_succ])))
      clear hHeld;generalize wr.drew = wd at *
      (refine lexT_do (by rfl) (fun K hK => ?_);go_simp)
      refine (HC.out _ (HWR.out.trans (hdr.mono HWR.out.size))).mono ?_;rintro r w5 ⟨rfl,hb5⟩
      (try go_simp)
      have hdr2:=qtrans hdr hb5;refine hK.out _ _ (SW.out _ hdr2) (fun _ => ?_);clear hK K;(try simp only [Act.put,List.setIfInBounds_toArray,List.set_cons_zero,List.set_cons_succ])
      iterate 3 (first | (refine lexT_skip (by rfl) ?_;(try simp only [Act.put,List.setIfInBounds_toArray,List.set_cons_zero,List.set_cons_succ])) | (refine lexT_take (v:=?_) (by rfl) ?_ ?_;rotate_left;(focus (intro wq hSw;(try dsimp only at hSw);go_simp;(try with_reducible rfl)));(try simp only [Act.put,List.setIfInBounds_toArray,List.set_cons_zero,List.set_cons_succ])))
      refine lexT_end ?_;have g0:=HM.out.below hdr2;have hc0:=g0.cell (metC_at (k:=k) (by have:=HBL.out;simp;omega));have hfz:=g0.frozen k;have hgl:=g0.lt;have HO4:=lH (HMO.out.trans (Mod.of hdr2));have HG:=lH g0;clear g0 SW
      have HC9:Hid (CBox (w5.setCell ⟨M,k,none⟩ (.bool (!ib))) M 4 (metC (B.set k (true && dep l m k)))):=by
       show CBox _ _ _ _
       have q:=HG.out.set k (.bool (!ib));rw [metC_setb,List.set_set] at q;rw [HDP.out] at q ⊢;exact q
      have HO9:=lH (HO4.out.setCell (p:=⟨M,k,none⟩) (by simp) (.bool (!ib)));go_wp2;refine NoPanic.normal ?_;go_wp2;go_roundw
      case rel => exact ⟨m + 1,true && dep l m k,by omega,by omega,by go_num,HN,HC9,HO9⟩
      case measure => simp [intOf];omega
    ·have HKB:Hid (kp k = !bb):=by
      show _ = _
      have h1:=HBB.out;have h2:=HKP.out k hi
      have h3:bb = true↔(k = j∨Reach l k j):=by
       rw [h1]
       constructor
       ·rintro (h | ⟨q,q1,q2,q3,q4,q5⟩)
        ·exact .inl h
        ·refine .inr (Reach.head.2 ⟨by omega,q,q1,q3,?_,q5⟩)
         exact ((HBS.out q).1 q4).elim .inl (fun h => .inr h.2)
       ·rintro (h | h)
        ·exact .inl h
        ·obtain ⟨h4,q,q1,q2,q3,q5⟩:=Reach.head.1 h
         cases hbv:bb with
         | true => exact h1.1 hbv
         | false =>
          have hnm:¬ m < k:=fun h6 => hgo ⟨h6,hbv⟩;exact .inr ⟨q,q1,by omega,q2,(HBS.out q).2 (q3.elim .inl (fun h7 => .inr ⟨q2,h7⟩)),q5⟩
      cases hk2:kp k with
      | true =>
       cases hbv:bb with
       | false => rfl
       | true => rw [h2.2 (h3.1 hbv)] at hk2;cases hk2
      | false => rw [h3.2 (h2.1 hk2)];rfl
     have HBS2:Hid (∀ q,metB (B.set k bb) q↔(q = j∨(q < k + 1∧Reach l q j))):=fun q => by
      have h2:=HKP.out k hi;rw [HKB.out] at h2;rw [metB_setb (by have:=HBL.out;omega),HBS.out q]
      constructor
      ·rintro (⟨rfl,h⟩ | ⟨h4,h5 | h5⟩)
       ·exact (h2.1 (by rw [h];rfl)).elim .inl (fun h6 => .inr ⟨by omega,h6⟩)
       ·exact .inl h5
       ·exact .inr ⟨by omega,h5.2⟩
      ·intro h
       by_cases hq:q = k
       ·subst hq
        refine .inl ⟨rfl,?_⟩;have:=h2.2 (h.elim .inl (fun h6 => .inr h6.2))
        simpa using this
       ·exact .inr ⟨hq,h.elim .inl (fun h6 => .inr ⟨by omega,h6.2⟩)⟩
     have HBL2:Hid ((B.set k bb).length = l.length):=by show _ = _;rw [List.length_set];exact HBL.out
     have HS:=lH (HPS.out k);rw [HKB.out,eAt_of HEE.out] at HS;have HOE:=lH (HOA.out.mod HMO.out (by intro q hq;simp at hq;omega));have HWR:=lH (HBA.out.trans (HMO.out.upto HBA.out.size (by intro q hq;simp at hq;omega)));have hXr:=HX.out.mod HMO.out (by simp;omega);have e0:=hXr.cell (i:=0) (v:=.int .i64 e.kind) rfl;have e1:=hXr.cell (i:=1) (v:=.string e.pack) rfl;have e2:=hXr.cell (i:=2) (v:=.string e.text) rfl;have e3:=hXr.cell (i:=3) (v:=.slice ao e.old.length co) rfl
     have e4:=hXr.cell (i:=4) (v:=.slice af e.fresh.length cf) rfl;have el:=hXr.lt;obtain ⟨sa,sc,rfl⟩:=HSV.out;have hlen:=HLEN.out;have hsw:=HWR.out.size
     by_cases hmk3:m < k
     ·have hbt:bb = true:=by cases hbv:bb with | true => rfl | false => exact absurd ⟨hmk3,hbv⟩ hgo
      subst hbt;have hd2:decide ((m:Int) < (k:Int)) = true:=decide_eq_true (by omega);have hd3:decide (m < k) = true:=decide_eq_true hmk3;rw [if_neg (by simp),List.append_nil] at HS;clear hXr hgo hmk3;go_wp2;go_roundw
      case rel => exact ⟨k + 1,_,by omega,by go_num,HBL2,HBS2,HM,by rw [HS.out];exact HOE.out,HWR⟩
      case measure => simp [intOf];omega
     have hd2:decide ((m:Int) < (k:Int)) = false:=decide_eq_false (by omega);have hd3:decide (m < k) = false:=decide_eq_false hmk3;clear hXr hgo hmk3
     cases bb with
     | true =>
      rw [if_neg (by simp),List.append_nil] at HS;go_wp2;go_roundw
      case rel => exact ⟨k + 1,_,by omega,by go_num,HBL2,HBS2,HM,by rw [HS.out];exact HOE.out,HWR⟩
      case measure => simp [intOf];omega
     | false =>
      rw [if_pos (by rfl)] at HS;obtain ⟨xs,hown,hxs⟩:=HOE.out;have HXS:=lH hxs;have hA3:=qalloc wr (.cells #[.int .i64 e.kind,.string e.pack,.string e.text,.slice ao e.old.length co,.slice af e.fresh.length cf] 35);have HR3:=lH (owns_row (own_many wr wr.heap.size (Nat.le_refl _) 35 #[.int .i64 e.kind,.string e.pack,.string e.text,.slice ao e.old.length co,.slice af e.fresh.length cf] 5 1 rfl (by omega)));have HO3:=lH (owns_below hown hA3);have HM3:=lH (HM.out.below hA3);have HA3:=lH hA3;have hsz3:=hA3.size;clear hA3 hown hxs
      go_wp2_with (at_builtin;refine wpList_append_row rfl _ _ 23 rfl (M + 1) 35 i0 _ 5 88 Tryz.underlying23 hi0 hz0 hz1 hz2 hzs (by decide) _ _ _ rfl HO3.out _ _ _ rfl HR3.out (by intro u hu;simp at hu;rcases hu with rfl | rfl | rfl | rfl | rfl <;> rfl) (by unfold maxLen;omega) (by omega) (by omega) ?_)
      intro v5 w5 hown5 hg5 hbk5;have HB5:=lH (((HWR.out.trans (HA3.out.mono hsw))).grown hg5 (by omega) (fun x hx => by have:=(HO3.out.lt x hx).1;omega))
      have HO5:Hid (OwnE w w5 (M + 1) v5 (pf (k + 1))):=by
       show OwnE _ _ _ _ _
       rw [HS.out];exact OwnE.snoc HXS.out hin.out hown5
      have HM5:Hid (CBox w5 M 4 (metC (B.set k false))):=(hg5.block M HM3.out.lt (fun e => by have:=(HO3.out.lt M e.symm).1;omega)).trans HM3.out;clear hown5 hg5 hbk5;go_wp2;go_roundw
      case rel => exact ⟨k + 1,_,by omega,by go_num,HBL2,HBS2,HM5,HO5,HB5⟩
      case measure => simp [intOf];omega
  ·have hd:decide ((k:Int) < (l.length:Int)) = false:=decide_eq_false (by omega)
   obtain rfl:k = l.length:=by omega
   have HO2:=HO.out;obtain ⟨sa,sc,rfl⟩:=HO2.val;have HRR:=lH (HO2.reads HB.out);clear HO2;go_wp2;go_returns;exact ⟨_,by rw [H0.out];rfl,⟨sa,sc,by rw [HP.out];rfl⟩,by rw [HP.out];exact HRR.out,HB.out⟩
end Go.Proofs.YtdpnfkjafhbndaaGreatDoor

