/- The reference's id, Independent of chapter 35. The reference's Swap of chapter 35. The reference's SameAll of edits. Moving an edit in a list, plainly; rows of edits that the call owns. Rows of edits: two that stand side by side; slices.Clone over edits. -/
import Derived.Test.YtdpnfkjafhbndaaGreatDoorCSEr
import Derived.Test.YtdpnfkjafhbndaaGreatDoorCSEn
import Derived.Test.YtdpnfkjafhbndaaGreatDoorCT8
import Derived.Lib.SliceRun
namespace Go.Proofs.YtdpnfkjafhbndaaGreatDoor
open Go.RowKit Go.Shelf
attribute [local go_sem] Oper.semAt_some
def sameEs:List OEdit→List OEdit→Bool
 | [],[] => true
 | a :: r,b :: s => sameE a b && sameEs r s
 | _,_ => false
theorem sameEs_iff:∀ {l m:List OEdit},sameEs l m = true↔l = m
 | [],[] => by simp [sameEs]
 | [],b :: s => by simp [sameEs]
 | a :: r,[] => by simp [sameEs]
 | a :: r,b :: s => by simp [sameEs,sameE_iff,sameEs_iff]
theorem sameEs_len {l m:List OEdit} (h:l.length≠m.length):sameEs l m = false:=by
 cases e:sameEs l m with
 | false => rfl
 | true => exact absurd (congrArg List.length (sameEs_iff.1 e)) h
theorem sameEs_at {l m:List OEdit} {i:Nat} {x y:OEdit} (hx:l[i]? = some x) (hy:m[i]? = some y):sameEs (l.drop i) (m.drop i) = (sameE x y && sameEs (l.drop (i + 1)) (m.drop (i + 1))):=by
 obtain ⟨h1,e1⟩:=List.getElem?_eq_some_iff.1 hx;obtain ⟨h2,e2⟩:=List.getElem?_eq_some_iff.1 hy;rw [List.drop_eq_getElem_cons h1,List.drop_eq_getElem_cons h2,sameEs,e1,e2]
theorem sameEs_end {l m:List OEdit} {i:Nat} (hl:l.length≤i) (hm:m.length≤i):sameEs (l.drop i) (m.drop i) = true:=by
 rw [List.drop_eq_nil_of_le hl,List.drop_eq_nil_of_le hm,sameEs]
set_option maxRecDepth 100000 in
set_option maxHeartbeats 8000000 in
theorem r34SameAll_any (l m:List OEdit) (a b:Option Addr) (c d:Nat) (w:World) (hl:Reads w [] (editsT l) (.slice a l.length c)) (hm:Reads w [] (editsT m) (.slice b m.length d)) (hs:∀ x∈l,SmE x) (hn:l.length≤1000000) :
  Calls Tryz.prog 27 #[.slice a l.length c,.slice b m.length d] w fun e w' => e = .returned (.bool (sameEs l m))∧Below w.heap.size w w':=by
 have HL:=lH hl;have HM:=lH hm;have HS:=lH hs;have HE:Hid (sameEs l m = sameEs (l.drop 0) (m.drop 0)):=rfl;have HLEN:=lH (sameEs_len (l:=l) (m:=m));clear hl hm hs;generalize sameEs l m = T at *
 by_cases hlen:l.length = m.length
 rotate_left
 ·have q1:((l.length:Int) != (m.length:Int)) = true:=bne_iff_ne.2 (by omega)
  have HF:=lH (HLEN.out hlen);clear hlen HLEN
  go_enter Tryz.func27,Tryz.ntmps27
  go_wp2;go_ret;exact ⟨ret_bool HF.out.symm,qrefl _⟩
 have q1:((l.length:Int) != (m.length:Int)) = false:=by rw [hlen];simp
 have HLE:=lH hlen;clear hlen HLEN
 go_enter Tryz.func27,Tryz.ntmps27
 go_wp2
 go_loopw [5] (fun iv wr => ∃ i:Nat,i≤l.length∧iv = .int .i64 i∧Hid (T = sameEs (l.drop i) (m.drop i))∧Below w.heap.size w wr) (fun iv _ => l.length - (intOf iv).toNat)
 case atStart => exact ⟨0,Nat.zero_le _,rfl,HE,qrefl _⟩
 case round =>
  obtain ⟨i,hil,rfl,HI,hb⟩:=hrel
  by_cases hi:i < l.length
  ·have hd:decide ((i:Int) < (l.length:Int)) = true:=decide_eq_true (by omega)
   have hi2:i < m.length:=by rw [← HLE.out];exact hi
   have hir:(i:Int) < (l.length:Int):=by omega
   have hir2:(i:Int) < (m.length:Int):=by omega
   obtain ⟨x,hx⟩:∃ x,l[i]? = some x:=⟨_,List.getElem?_eq_getElem hi⟩;obtain ⟨y,hy⟩:∃ y,m[i]? = some y:=⟨_,List.getElem?_eq_getElem hi2⟩;obtain ⟨b1,o1,xo,xc,xf,xd,rfl,hb1,x0,x1,x2,x3,x4,hxi⟩:=cells_edit (HL.out.below hb) hx;obtain ⟨b2,o2,yo,yc,yf,yd,rfl,hb2,y0,y1,y2,y3,y4,hyi⟩:=cells_edit (HM.out.below hb) hy;have hsx:=HS.out x (List.mem_of_getElem? hx);have HC:=lH (fun w' (h':Below wr.heap.size wr w') => r34Same_any x y xo xc xf xd yo yc yf yd w' (hxi.out.below h') (hyi.out.below h') hsx)
   have HN:=lH (HI.out.trans (sameEs_at hx hy));clear hxi hyi hsx HI hx hy;unfold editV at *;generalize sameE x y = r at *
   have SW:Hid (∀ W:World,Below wr.heap.size wr W→(b1 < W.heap.size∧b2 < W.heap.size∧W.cell? ⟨b1,o1 + i * 5,none⟩ = some (.int .i64 x.kind)∧W.cell? ⟨b1,o1 + i * 5 + 1,none⟩ = some (.string x.pack)∧W.cell? ⟨b1,o1 + i * 5 + 2,none⟩ = some (.string x.text)∧W.cell? ⟨b1,o1 + i * 5 + 3,none⟩ = some (.slice xo x.old.length xc)∧W.cell? ⟨b1,o1 + i * 5 + 4,none⟩ = some (.slice xf x.fresh.length xd)∧W.cell? ⟨b2,o2 + i * 5,none⟩ = some (.int .i64 y.kind)∧W.cell? ⟨b2,o2 + i * 5 + 1,none⟩ = some (.string y.pack)∧W.cell? ⟨b2,o2 + i * 5 + 2,none⟩ = some (.string y.text)∧W.cell? ⟨b2,o2 + i * 5 + 3,none⟩ = some (.slice yo y.old.length yc)∧W.cell? ⟨b2,o2 + i * 5 + 4,none⟩ = some (.slice yf y.fresh.length yd))):=lH (fun W hW => ⟨Nat.lt_of_lt_of_le hb1 hW.size,Nat.lt_of_lt_of_le hb2 hW.size,(hW.cell (p:=⟨b1,_,none⟩) hb1).trans x0,(hW.cell (p:=⟨b1,_,none⟩) hb1).trans x1,(hW.cell (p:=⟨b1,_,none⟩) hb1).trans x2,(hW.cell (p:=⟨b1,_,none⟩) hb1).trans x3,(hW.cell (p:=⟨b1,_,none⟩) hb1).trans x4,(hW.cell (p:=⟨b2,_,none⟩) hb2).trans y0,(hW.cell (p:=⟨b2,_,none⟩) hb2).trans y1,(hW.cell (p:=⟨b2,_,none⟩) hb2).trans y2,(hW.cell (p:=⟨b2,_,none⟩) hb2).trans y3,(hW.cell (p:=⟨b2,_,none⟩) hb2).trans y4⟩)
   have hdr:Below wr.heap.size wr wr.drew:=(Mod.refl [] wr).drew.below;clear x0 x1 x2 x3 x4 y0 y1 y2 y3 y4;go_upto_region 6 with (fail)
   go_cut [26] from 11 to 26 (fun v wx => v = .bool (!r)∧Below wr.heap.size wr wx)
   case first =>
    refine wp_region_noPanic (region_lex (fun W:World => b1 < W.heap.size∧b2 < W.heap.size∧W.cell? ⟨b1,o1 + i * 5,none⟩ = some (.int .i64 x.kind)∧W.cell? ⟨b1,o1 + i * 5 + 1,none⟩ = some (.string x.pack)∧W.cell? ⟨b1,o1 + i * 5 + 2,none⟩ = some (.string x.text)∧W.cell? ⟨b1,o1 + i * 5 + 3,none⟩ = some (.slice xo x.old.length xc)∧W.cell? ⟨b1,o1 + i * 5 + 4,none⟩ = some (.slice xf x.fresh.length xd)∧W.cell? ⟨b2,o2 + i * 5,none⟩ = some (.int .i64 y.kind)∧W.cell? ⟨b2,o2 + i * 5 + 1,none⟩ = some (.string y.pack)∧W.cell? ⟨b2,o2 + i * 5 + 2,none⟩ = some (.string y.text)∧W.cell? ⟨b2,o2 + i * 5 + 3,none⟩ = some (.slice yo y.old.length yc)∧W.cell? ⟨b2,o2 + i * 5 + 4,none⟩ = some (.slice yf y.fresh.length yd)) [true,true,true,true,true,true,true,true,false,true] mixedK (by kernel_rfl) (fun _ _ _ _ _ h => h) (SW.out _ hdr) (fun hHeld => ?_))
    iterate 8 (first | (refine lex_skip (by rfl) ?_;(try simp only [Act.put,List.setIfInBounds_toArray,List.set_cons_zero,List.set_cons_succ])) | (refine lex_take (v:=?_) (by rfl) ?_ ?_;rotate_left;(focus (intro wq hSw;(try dsimp only at hSw);go_simp;(try with_reducible rfl)));(try simp only [Act.put,List.setIfInBounds_toArray,List.set_cons_zero,List.set_cons_succ])))
    clear hHeld;generalize wr.drew = wd at *
    (refine lex_do (by rfl) (fun K hK => ?_);go_simp)
    refine (HC.out _ hdr).mono ?_;rintro r w3 ⟨rfl,hb3⟩
    (try go_simp)
    have hb4:=qtrans hdr hb3;refine hK.out _ _ (SW.out _ hb4) (fun _ => ?_);clear hK K;(try simp only [Act.put,List.setIfInBounds_toArray,List.set_cons_zero,List.set_cons_succ])
    (first | (refine lex_skip (by rfl) ?_;(try simp only [Act.put,List.setIfInBounds_toArray,List.set_cons_zero,List.set_cons_succ])) | (refine lex_take (v:=?_) (by rfl) ?_ ?_;rotate_left;(focus (intro wq hSw;(try dsimp only at hSw);go_simp;(try with_reducible rfl)));(try simp only [Act.put,List.setIfInBounds_toArray,List.set_cons_zero,List.set_cons_succ])))
    refine lex_end ?_;refine NoPanic.normal ?_
    (try go_wp2)
    go_meet
    case rel => exact ⟨rfl,hb4⟩
   case rest =>
   obtain ⟨rfl,hb4⟩:=hcut;have hB4:=hb.trans (hb4.mono hb.size);clear SW HC hdr
   cases r with
   | true =>
    rw [Bool.true_and] at HN;simp only [Bool.not_true]
    go_wp2;go_roundw
    case rel => exact ⟨i + 1,by omega,by go_num,HN,hB4⟩
    case measure => simp [intOf];omega
   | false =>
    rw [Bool.false_and] at HN;simp only [Bool.not_false]
    go_wp2;go_ret;exact ⟨ret_bool HN.out.symm,hB4⟩
  ·have hd:decide ((i:Int) < (l.length:Int)) = false:=decide_eq_false (by omega)
   have HF:Hid (T = true):=by show _ = _;rw [HI.out,sameEs_end (by omega) (by rw [← HLE.out];omega)]
   go_wp2;go_ret;exact ⟨ret_bool HF.out.symm,hb⟩
def swapAt (l:List OEdit) (k:Nat):List OEdit:=(l.set k (eAt l (k + 1))).set (k + 1) (eAt l k)
theorem swapAt_len (l:List OEdit) (k:Nat):(swapAt l k).length = l.length:=by unfold swapAt;simp
def moveUp:Nat→List OEdit→Nat→Option (List OEdit)
 | 0,l,_ => some l
 | d + 1,l,f => if swapB (eAt l f) (eAt l (f + 1)) then moveUp d (swapAt l f) (f + 1) else none
def moveDown:Nat→List OEdit→Nat→Option (List OEdit)
 | 0,l,_ => some l
 | d + 1,l,f => if swapB (eAt l (f - 1)) (eAt l f) then moveDown d (swapAt l (f - 1)) (f - 1) else none
def mv (l:List OEdit) (f t:Nat):Option (List OEdit):=if f≤t then moveUp (t - f) l f else moveDown (f - t) l f
theorem mv_same (l:List OEdit) (t:Nat):mv l t t = some l:=by unfold mv;rw [if_pos (Nat.le_refl _),Nat.sub_self];rfl
theorem mv_up {l:List OEdit} {f t:Nat} (h:f < t):mv l f t = if swapB (eAt l f) (eAt l (f + 1)) then mv (swapAt l f) (f + 1) t else none:=by
 unfold mv;rw [if_pos (show f≤t by omega),if_pos (show f + 1≤t by omega),show t - f = (t - (f + 1)) + 1 by omega,moveUp]
theorem mv_down {l:List OEdit} {f t:Nat} (h:t < f):mv l f t = if swapB (eAt l (f - 1)) (eAt l f) then mv (swapAt l (f - 1)) (f - 1) t else none:=by
 unfold mv;rw [if_neg (by omega)]
 by_cases h1:f - 1≤t
 ·rw [if_pos h1,show f - t = 0 + 1 by omega,moveDown,show t - (f - 1) = 0 by omega];rfl
 ·rw [if_neg h1,show f - t = (f - 1 - t) + 1 by omega,moveDown]
def moveL (l:List OEdit) (f t:Int):Option (List OEdit):=if f < 0∨(l.length:Int)≤f∨t < 0∨(l.length:Int)≤t then none else mv l f.toNat t.toNat
theorem swapAt_split {P R:List OEdit} {e f:OEdit}:swapAt (P ++ e :: f :: R) P.length = P ++ f :: e :: R:=by
 unfold swapAt;have h1:eAt (P ++ e :: f :: R) (P.length + 1) = f:=eAt_of (by rw [List.getElem?_append_right (by omega)];simp);have h2:eAt (P ++ e :: f :: R) P.length = e:=eAt_of (by rw [List.getElem?_append_right (by omega)];simp);rw [h1,h2,List.set_append_right _ _ (by omega),List.set_append_right _ _ (by omega)];simp
theorem split_at {l:List OEdit} {k:Nat} (h:k + 1 < l.length):∃ P R,l = P ++ eAt l k :: eAt l (k + 1) :: R∧P.length = k:=by
 refine ⟨l.take k,l.drop (k + 2),?_,by rw [List.length_take];omega⟩;rw [eAt_of (List.getElem?_eq_getElem (show k < l.length by omega)),eAt_of (List.getElem?_eq_getElem h)];have h1:=List.drop_eq_getElem_cons (show k < l.length by omega);have h2:=List.drop_eq_getElem_cons h;rw [← h2,← h1,List.take_append_drop]
section
variable {w:World} {B:Nat} {e:TypeId} {n cap sz:Nat} {xs:List Value}
theorem owns_setc {g:Nat} (h:w.ownsRow B e sz (.slice (some ⟨g,0,none⟩) n cap) n xs) (_hn:0 < n) (i:Nat) (v:Value):(w.setCell ⟨g,i,none⟩ v).ownsRow B e sz (.slice (some ⟨g,0,none⟩) n cap) n (xs.set i v):=by
  obtain ⟨hl,h2⟩:=h
  rcases h2 with ⟨hv,h0⟩ | ⟨g',cap',cur,hv,hg,hh,hn',hc,hs,ht⟩
  · cases hv
  · injection hv with e1 e2 e3
    injection e1 with e1
    injection e1 with e1
    subst e1 e3
    refine ⟨by rw [List.length_set];exact hl,.inr ⟨g,cap,cur.setIfInBounds i v,rfl,hg,CBox.set (B:=g) hh i v,hn',hc,by rw [Array.size_setIfInBounds];exact hs,?_⟩⟩
    rw [Array.toList_setIfInBounds,List.take_set,ht]
theorem owns_frozen {g:Nat} (h:w.ownsRow B e sz (.slice (some ⟨g,0,none⟩) n cap) n xs) (hn:0 < n) (i:Nat):w.frozen? ⟨g,i,none⟩ = false:=by
 obtain ⟨g',cur,h1,_,_,_,h2,_⟩:=owns_cells h hn
 injection h1 with h1
 injection h1 with h1
 subst h1;exact h2 i
end
def edC (e:OEdit) (ao:Option Addr) (co:Nat) (af:Option Addr) (cf:Nat):List Value:=[.int .i64 e.kind,.string e.pack,.string e.text,.slice ao e.old.length co,.slice af e.fresh.length cf]
theorem editT_len (e:OEdit):(editT e).length = 5:=rfl
theorem edits_one {w:World} {X:List Nat}:∀ {l:List OEdit} {xs:List Value},ReadsL w X (l.flatMap editT) xs→∀ u∈xs,u.oneCell' = true:=by
 intro l
 induction l with
 | nil => intro xs h;rw [List.flatMap_nil,ReadsL] at h;subst h;intro u hu;cases hu
 | cons y r ih =>
  intro xs h u hu;rw [List.flatMap_cons] at h;have h1:=h.take 5;have h2:=h.drop 5;rw [List.take_left' (editT_len y)] at h1;rw [List.drop_left' (editT_len y)] at h2;rw [← List.take_append_drop 5 xs,List.mem_append] at hu
  rcases hu with hu | hu
  ·obtain ⟨ao,co,af,cf,e,_⟩:=edit_cells h1
   rw [e] at hu;simp only [List.mem_cons,List.not_mem_nil,or_false] at hu
   rcases hu with rfl | rfl | rfl | rfl | rfl <;> rfl
  ·exact ih h2 u hu
theorem two_edits {w:World} {X:List Nat} {lk:List OEdit} {xs:List Value} (h:ReadsL w X (lk.flatMap editT) xs) {k:Nat} (hk:k + 1 < lk.length) :
  ∃ (A Bs:List Value) (ao:Option Addr) (co:Nat) (af:Option Addr) (cf:Nat) (bo:Option Addr) (do':Nat) (bf:Option Addr) (df:Nat),
   xs = A ++ (edC (eAt lk k) ao co af cf ++ (edC (eAt lk (k + 1)) bo do' bf df ++ Bs))∧A.length = k * 5 ∧
   (Reads w X (declsT (eAt lk k).old) (.slice ao (eAt lk k).old.length co)∧Reads w X (declsT (eAt lk k).fresh) (.slice af (eAt lk k).fresh.length cf)∧(eAt lk k).old.length≤co∧co≤9223372036854775807∧(eAt lk k).fresh.length≤cf∧cf≤9223372036854775807) ∧
   (Reads w X (declsT (eAt lk (k + 1)).old) (.slice bo (eAt lk (k + 1)).old.length do')∧Reads w X (declsT (eAt lk (k + 1)).fresh) (.slice bf (eAt lk (k + 1)).fresh.length df)∧(eAt lk (k + 1)).old.length≤do'∧do'≤9223372036854775807∧(eAt lk (k + 1)).fresh.length≤df∧df≤9223372036854775807) ∧
   ReadsL w X ((swapAt lk k).flatMap editT) (A ++ (edC (eAt lk (k + 1)) bo do' bf df ++ (edC (eAt lk k) ao co af cf ++ Bs))):=by
 obtain ⟨P,R,hl,hP⟩:=split_at hk;generalize eAt lk k = e at *;generalize eAt lk (k + 1) = f at *;subst hl;have hPl:(P.flatMap editT).length = k * 5:=by rw [flatMap_len editT_len,hP]
 rw [List.flatMap_append,List.flatMap_cons,List.flatMap_cons] at h;have h1:=h.take (k * 5);have h2:=h.drop (k * 5);rw [List.take_left' hPl] at h1;rw [List.drop_left' hPl] at h2;have h3:=h2.take 5;have h4:=h2.drop 5;rw [List.take_left' (editT_len e)] at h3;rw [List.drop_left' (editT_len e)] at h4;have h5:=h4.take 5;have h6:=h4.drop 5;rw [List.take_left' (editT_len f)] at h5;rw [List.drop_left' (editT_len f)] at h6;obtain ⟨ao,co,af,cf,e1,a1,a2,a3,a4,a5,a6⟩:=edit_cells h3;obtain ⟨bo,do',bf,df,e2,b1,b2,b3,b4,b5,b6⟩:=edit_cells h5
 refine ⟨xs.take (k * 5),((xs.drop (k * 5)).drop 5).drop 5,ao,co,af,cf,bo,do',bf,df,?_,by rw [h1.len,hPl],⟨a3,a6,a1,a2,a4,a5⟩,⟨b3,b6,b1,b2,b4,b5⟩,?_⟩
 ·unfold edC
  rw [← e1,← e2,List.take_append_drop,List.take_append_drop,List.take_append_drop]
 ·rw [← hP,swapAt_split,List.flatMap_append,List.flatMap_cons,List.flatMap_cons]
  rw [hP];unfold edC;rw [← e1,← e2];exact ReadsL.append (ReadsL.append (ReadsL.append h6 h3) h5) h1
theorem get10 (A Bs:List Value) (i j:Nat) (hi:i = A.length) (hj:j = A.length + 5) (x0 x1 x2 x3 x4 x5 x6 x7 x8 x9:Value):(A ++ ([x0,x1,x2,x3,x4] ++ ([x5,x6,x7,x8,x9] ++ Bs)))[i]? = some x0∧(A ++ ([x0,x1,x2,x3,x4] ++ ([x5,x6,x7,x8,x9] ++ Bs)))[i + 1]? = some x1∧(A ++ ([x0,x1,x2,x3,x4] ++ ([x5,x6,x7,x8,x9] ++ Bs)))[i + 2]? = some x2∧(A ++ ([x0,x1,x2,x3,x4] ++ ([x5,x6,x7,x8,x9] ++ Bs)))[i + 3]? = some x3∧(A ++ ([x0,x1,x2,x3,x4] ++ ([x5,x6,x7,x8,x9] ++ Bs)))[i + 4]? = some x4∧(A ++ ([x0,x1,x2,x3,x4] ++ ([x5,x6,x7,x8,x9] ++ Bs)))[j]? = some x5∧(A ++ ([x0,x1,x2,x3,x4] ++ ([x5,x6,x7,x8,x9] ++ Bs)))[j + 1]? = some x6∧(A ++ ([x0,x1,x2,x3,x4] ++ ([x5,x6,x7,x8,x9] ++ Bs)))[j + 2]? = some x7∧(A ++ ([x0,x1,x2,x3,x4] ++ ([x5,x6,x7,x8,x9] ++ Bs)))[j + 3]? = some x8∧(A ++ ([x0,x1,x2,x3,x4] ++ ([x5,x6,x7,x8,x9] ++ Bs)))[j + 4]? = some x9:=by
 have d0:A.length - A.length = 0:=by omega
 have d1:A.length + 1 - A.length = 1:=by omega
 have d2:A.length + 2 - A.length = 2:=by omega
 have d3:A.length + 3 - A.length = 3:=by omega
 have d4:A.length + 4 - A.length = 4:=by omega
 have d5:A.length + 5 - A.length = 5:=by omega
 have d6:A.length + 5 + 1 - A.length = 6:=by omega
 have d7:A.length + 5 + 2 - A.length = 7:=by omega
 have d8:A.length + 5 + 3 - A.length = 8:=by omega
 have d9:A.length + 5 + 4 - A.length = 9:=by omega
 subst hi hj;refine ⟨?_,?_,?_,?_,?_,?_,?_,?_,?_,?_⟩
 ·rw [List.getElem?_append_right (by omega),d0];rfl
 ·rw [List.getElem?_append_right (by omega),d1];rfl
 ·rw [List.getElem?_append_right (by omega),d2];rfl
 ·rw [List.getElem?_append_right (by omega),d3];rfl
 ·rw [List.getElem?_append_right (by omega),d4];rfl
 ·rw [List.getElem?_append_right (by omega),d5];rfl
 ·rw [List.getElem?_append_right (by omega),d6];rfl
 ·rw [List.getElem?_append_right (by omega),d7];rfl
 ·rw [List.getElem?_append_right (by omega),d8];rfl
 ·rw [List.getElem?_append_right (by omega),d9];rfl
theorem set10 (A Bs:List Value) (i j:Nat) (hi:i = A.length) (hj:j = A.length + 5) (x0 x1 x2 x3 x4 x5 x6 x7 x8 x9 v0 v1 v2 v3 v4 v5 v6 v7 v8 v9:Value) :
  (((((((((((A ++ ([x0,x1,x2,x3,x4] ++ ([x5,x6,x7,x8,x9] ++ Bs))).set (i) v0).set (i + 1) v1).set (i + 2) v2).set (i + 3) v3).set (i + 4) v4).set (j) v5).set (j + 1) v6).set (j + 2) v7).set (j + 3) v8).set (j + 4) v9) = A ++ ([v0,v1,v2,v3,v4] ++ ([v5,v6,v7,v8,v9] ++ Bs)):=by
 have d0:A.length - A.length = 0:=by omega
 have d1:A.length + 1 - A.length = 1:=by omega
 have d2:A.length + 2 - A.length = 2:=by omega
 have d3:A.length + 3 - A.length = 3:=by omega
 have d4:A.length + 4 - A.length = 4:=by omega
 have d5:A.length + 5 - A.length = 5:=by omega
 have d6:A.length + 5 + 1 - A.length = 6:=by omega
 have d7:A.length + 5 + 2 - A.length = 7:=by omega
 have d8:A.length + 5 + 3 - A.length = 8:=by omega
 have d9:A.length + 5 + 4 - A.length = 9:=by omega
 subst hi hj
 iterate 10 rw [List.set_append_right _ _ (by omega)]
 rw [d0,d1,d2,d3,d4,d5,d6,d7,d8,d9];rfl
theorem owns_ten {w:World} {B:Nat} {e:TypeId} {n cap g:Nat} {A Bs:List Value} {x0 x1 x2 x3 x4 x5 x6 x7 x8 x9:Value} (h:w.ownsRow B e 5 (.slice (some ⟨g,0,none⟩) n cap) n (A ++ ([x0,x1,x2,x3,x4] ++ ([x5,x6,x7,x8,x9] ++ Bs)))) (hn:0 < n) (i j:Nat) (hi:i = A.length) (hj:j = A.length + 5) (v0 v1 v2 v3 v4 v5 v6 v7 v8 v9:Value) :
  ((((((((((w.setCell ⟨g,i,none⟩ v0).setCell ⟨g,i + 1,none⟩ v1).setCell ⟨g,i + 2,none⟩ v2).setCell ⟨g,i + 3,none⟩ v3).setCell ⟨g,i + 4,none⟩ v4).setCell ⟨g,j,none⟩ v5).setCell ⟨g,j + 1,none⟩ v6).setCell ⟨g,j + 2,none⟩ v7).setCell ⟨g,j + 3,none⟩ v8).setCell ⟨g,j + 4,none⟩ v9).drew.ownsRow B e 5 (.slice (some ⟨g,0,none⟩) n cap) n (A ++ ([v0,v1,v2,v3,v4] ++ ([v5,v6,v7,v8,v9] ++ Bs)))∧Mod [g] w ((((((((((w.setCell ⟨g,i,none⟩ v0).setCell ⟨g,i + 1,none⟩ v1).setCell ⟨g,i + 2,none⟩ v2).setCell ⟨g,i + 3,none⟩ v3).setCell ⟨g,i + 4,none⟩ v4).setCell ⟨g,j,none⟩ v5).setCell ⟨g,j + 1,none⟩ v6).setCell ⟨g,j + 2,none⟩ v7).setCell ⟨g,j + 3,none⟩ v8).setCell ⟨g,j + 4,none⟩ v9).drew:=by
 have hg:∀ o:Nat,(⟨g,o,none⟩:Addr).block∈[g]:=fun _ => List.mem_singleton.2 rfl;have h0:=owns_setc h hn (i) v0;have m0:=(Mod.refl [g] w).setCell (hg (i)) v0;have h1:=owns_setc h0 hn (i + 1) v1;have m1:=m0.setCell (hg (i + 1)) v1;have h2:=owns_setc h1 hn (i + 2) v2;have m2:=m1.setCell (hg (i + 2)) v2;have h3:=owns_setc h2 hn (i + 3) v3;have m3:=m2.setCell (hg (i + 3)) v3;have h4:=owns_setc h3 hn (i + 4) v4;have m4:=m3.setCell (hg (i + 4)) v4;have h5:=owns_setc h4 hn (j) v5;have m5:=m4.setCell (hg (j)) v5;have h6:=owns_setc h5 hn (j + 1) v6
 have m6:=m5.setCell (hg (j + 1)) v6;have h7:=owns_setc h6 hn (j + 2) v7;have m7:=m6.setCell (hg (j + 2)) v7;have h8:=owns_setc h7 hn (j + 3) v8;have m8:=m7.setCell (hg (j + 3)) v8;have h9:=owns_setc h8 hn (j + 4) v9;have m9:=m8.setCell (hg (j + 4)) v9;rw [set10 A Bs i j hi hj] at h9;exact ⟨owns_below h9 (Mod.refl [] _).drew.below,m9.drew⟩
theorem eqNilE_some (ad:Addr) (n c:Nat) (w:World):(binOp .eql 23 (.slice (some ad) n c) (.slice none 0 0)).run Tryz.prog w = .ok (.bool false) w:=Lib.run_eql_slice_nil w _ _ (some ad) n c 0 0 Tryz.underlying23
attribute [local go_sem] eqNilE_some
set_option maxRecDepth 100000 in
set_option maxHeartbeats 1000000 in
theorem CloneE_any (l:List OEdit) (a:Option Addr) (c:Nat) (w:World) (hl:Reads w [] (editsT l) (.slice a l.length c)) (hn:l.length≤1000000) (h0:0 < l.length) :
  Calls Tryz.prog 79 #[.slice a l.length c] w fun r w' => ∃ v xs,r = .returned v∧w'.ownsRow w.heap.size 35 5 v l.length xs∧ReadsL w [] (l.flatMap editT) xs∧Below w.heap.size w w':=by
 obtain ⟨xs,hr,-,hx⟩:=Reads.toRow hl;obtain ⟨i0,z,hi,hz0,hzs,hz1,hz2⟩:=info_parts' infoEdit;have HR:=lH hr;have HX:=lH hx;have HO:=lH (edits_one hx);obtain ⟨b,o,ao,co,af,cf,rfl,hbl,-⟩:=cells_edit hl (List.getElem?_eq_getElem h0);have hown0:(w.alloc (.cells #[] 35)).ownsRow w.heap.size 35 5 (.slice (some ⟨w.heap.size,0,none⟩) 0 0) 0 []:=World.ownsRow_made w #[] 0 (Nat.le_refl _) (Nat.zero_le _) rfl;have hA0:=qalloc w (.cells #[] 35);clear hl hr hx
 go_enter Tryz.func79,Tryz.ntmps79
 go_wp2_with (at_builtin;refine wpList_append_row rfl _ _ 23 rfl w.heap.size 35 i0 _ 5 88 Tryz.underlying23 hi hz0 hz1 hz2 hzs (by decide) _ _ _ rfl hown0 _ _ _ rfl (HR.out.below hA0) HO.out (by unfold maxLen;omega) (by omega) (by simp) ?_)
 intro v1 w1 hown1 hg1 hb1;have hB1:Below w.heap.size w w1:=hA0.grown hg1 (by simp) (fun k hk => by cases hk;exact Nat.le_refl _);go_wp2;go_ret;exact ⟨_,_,rfl,by simpa using hown1,HX.out,hB1⟩
end Go.Proofs.YtdpnfkjafhbndaaGreatDoor

