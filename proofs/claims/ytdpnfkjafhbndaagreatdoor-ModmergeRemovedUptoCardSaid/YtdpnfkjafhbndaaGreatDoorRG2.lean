/- Ranges over iterators that hand out a known list; strings.Index, LastIndexByte, SplitSeq at the slash; slices.Index, Contains over strings. -/
import Derived.Lib.Bytealg
import Derived.LoopIn
import Derived.LoopNIn
import Derived.OwnWalkIn
import Derived.RangeFuncBound
import Derived.RangeFuncCalls
import Derived.RangeFuncLeaves
import Derived.RangeFuncNested
import Derived.Shelf.Abstract
import Derived.Shelf.RegionOpen
import Derived.TacticsInMore
import Derived.WalkKit
import Derived.Test.YtdpnfkjafhbndaaGreatDoorRG1
namespace Go.Proofs.YtdpnfkjafhbndaaGreatDoor
open Go.RowKit
variable {F:Fence} {n:Nat} {P:Program}
def Iter (F:Fence) (n:Nat) (P:Program) (gf:Nat) (lb:Array Value) (args:List (Array Value)) (n₀:Nat) (Ab:World→World→Prop) (w:World):Prop:=
  ∀ (l:Nat) (J Jx:Nat→World→Prop) (W:World),Below w.heap.size w W→(∀ k A B,J k A→Ab A B→J k B)→(∀ k A B,Jx k A→Ab A B→Jx k B) →
    (∀ k (hk:k < args.length) W1,J k W1→YieldAt F (n - 1) P l args[k] W1 fun e W' =>
      (e = .returned (.bool true)∧J (k + 1) W'∧Below n₀ W1 W')∨(e = .returned (.bool false)∧Jx (k + 1) W')) →
    J 0 W →
    CallsIn F n P gf (#[.func (.yield l) #[] #[]] ++ lb) W fun e W' => (∃ v,e = .returned v)∧(J args.length W'∨∃ k,k≤args.length∧Jx k W')
def iterPost (B n₀:Nat) (I:Nat→World→Prop) (Ix:Code→Nat→World→Prop) (k:Nat) (W:World):Exit→Act→World→Prop
  | .normal,_,W' => KeepsFrom B W W'∧Below n₀ W W'∧I k W'
  | .ret,_,W' => KeepsFrom B W W'∧Ix .ret k W'
  | .exit id,_,W' => KeepsFrom B W W'∧Ix (.exit id) k W'
  | .goto t,_,W' => KeepsFrom B W W'∧Ix (.goto t) k W'
  | .panic _,_,_ => False
  | .outgrown,_,_ => False
theorem wp_iter {g:Operand} {ps:Array Tmp} {assign body:Code} {Q:Exit→Act→World→Prop} {a:Act} {w:World}
  (hro:F.round = none) (h1:1≤n) {gf:Nat} {lb:Array Value} (hg:a.eval g = .func (.func gf) #[] lb) (hFg:F.fn gf) (eg:∀ args w,(callFunc gf args).run P w = .ok (.enter gf args) w)
  {args:List (Array Value)} {n₀:Nat} {Ab:World→World→Prop} {w0:World} (hseq:Iter F (n - 1) P gf lb args n₀ Ab w0) (hn₀:n₀≤w.heap.size) (hb0:Bw w0 w)
  (hps:∀ k (hk:k < args.length),args[k].size = ps.size)
  (I:Nat→World→Prop) (Ix:Code→Nat→World→Prop) (hI:OwnFrom w.heap.size I) (hIx:∀ c,OwnFrom w.heap.size (Ix c))
  (hAb:∀ A B,Ab A B→∀ (k:Nat) (o:Obj),w.heap.size≤k→A.heap[k]? = some o→o.isCells = false→B.heap[k]? = some o)
  (hIA:∀ k A B,I k A→Ab A B→I k B) (hIxA:∀ c k A B,Ix c k A→Ab A B→Ix c k B)
  (h0:I 0 w) (Ax:Nat→Act→World→Prop) (hAx:∀ k a',OwnFrom w.heap.size (fun (_:Unit) W => Ax k a' W))
  (hassign:∀ (l:Nat) (k:Nat) (hk:k < args.length) (W:World) (K:Act→World→Prop),I k W→(∀ a' W',KeepsFrom w.heap.size W W'→Below n₀ W W'→I k W'→Ax k a' W'→K a' W') →
   assign.wpIn (F.inRound l) (n - 1 - 1) P (Exit.then K (fun _ _ _ => False)) { tmps:=(ps.zip args[k]).foldl (fun t (p,v) => t.setIfInBounds p v) a.tmps,defers:=[] } W)
  (hbody:∀ (l:Nat) (k:Nat) (_:k < args.length) (a':Act) (W:World),I k W→Ax k a' W→body.wpIn (F.inRound l) (n - 1 - 1) P (iterPost w.heap.size n₀ I Ix (k + 1) W) a' W)
  (hdone:∀ (D:Nat) (W:World),w.heap.size≤D→I args.length W→W.heap[D]? = some (.deferred (some []))→Q .normal { a with defers:={ target:=.collected D,args:=#[] } :: a.defers } W)
  (hstop:∀ (D:Nat) (c:Code) (k:Nat) (W:World),w.heap.size≤D→k≤args.length→Ix c k W→W.heap[D]? = some (.deferred (some []))→c.wpIn F n P Q { a with defers:={ target:=.collected D,args:=#[] } :: a.defers } W) :
  (Code.rangeFunc g ps assign body).wpIn F n P Q a w:=by
 refine wpIn_rangeFunc fun fn hfn => ?_;rw [hro];generalize hrec:(fun (st:LoopState) (pe:Option Code) => ({ state:=st,pending:=pe,fn,tmps:=a.tmps,params:=ps,assign,body,defers:=w.heap.size }:Loop)) = rec;have hr0:∀ st pe,({ state:=st,pending:=pe,fn,tmps:=a.tmps,params:=ps,assign,body,defers:=w.heap.size }:Loop) = rec st pe:=fun st pe => by rw [← hrec]
 generalize hW1:(w.alloc (.deferred (some []))).alloc (.loop (rec .ready none)) = W1;have hsz1:W1.heap.size = w.heap.size + 2:=by rw [← hW1];simp
 have hL1:W1.heap[w.heap.size + 1]? = some (.loop (rec .ready none)):=by
  rw [← hW1];have:=World.alloc_heap_new (w.alloc (.deferred (some []))) (.loop (rec .ready none));rwa [World.size_alloc] at this
 have hK1:W1.heap[w.heap.size]? = some (.deferred (some [])):=by
  rw [← hW1];exact (Below.heap_alloc _ _ _ (by simp)).trans (World.alloc_heap_new w _)
 have hI1:I 0 W1:=by rw [← hW1];exact hI.alloc _ (hI.alloc _ h0)
 have hb1:Bw w0 W1:=by
  rw [← hW1];exact hb0.trans ((((Below.refl _ w).alloc (Nat.le_refl _) _).alloc (by simp) _).mono hb0.size)
 have hKb:∀ (W:World) (o o':Obj),W.heap[w.heap.size + 1]? = some o→o.isCells = false→o.isWalk = false→Below n₀ W (W.putObj (w.heap.size + 1) o'):=
  fun W o o' h hc hw => belowK_b (w:=w) hn₀ W _ o o' (by omega) h hc hw
 refine ⟨w.heap.size + 1,[{ target:=.collected w.heap.size,args:=#[] }],W1,{ target:=.fn (.func gf) lb,args:=#[.func (.yield (w.heap.size + 1)) #[] #[]] },W1,gf,
  #[.func (.yield (w.heap.size + 1)) #[] #[]] ++ lb,W1,?_,?_,?_,?_,fun _ => h1,?_⟩
 ·rw [← hW1,← hr0];exact run_enterLoop_outer _ _ _ _ _
 ·simp only [resolve,hg]
  simp [go_sem]
 ·intro f' hf';simp [Target.leads] at hf';subst hf';exact hFg
 ·simp [invoke,go_sem,eg]
 ·refine (hseq (w.heap.size + 1)
   (fun k W => I k W∧W.heap[w.heap.size + 1]? = some (.loop (rec .ready none))∧W.heap[w.heap.size]? = some (.deferred (some [])))
   (fun k W => ∃ c,Ix c k W∧W.heap[w.heap.size + 1]? = some (.loop (rec .done (some c)))∧W.heap[w.heap.size]? = some (.deferred (some [])))
   W1 hb1
   (fun k A B hs hab => ⟨hIA k A B hs.1 hab,hAb A B hab _ _ (by omega) hs.2.1 rfl,hAb A B hab _ _ (by omega) hs.2.2 rfl⟩)
   (fun k A B hs hab => by
    obtain ⟨c,hc,hl,hk⟩:=hs
    exact ⟨c,hIxA c k A B hc hab,hAb A B hab _ _ (by omega) hl rfl,hAb A B hab _ _ (by omega) hk rfl⟩)
   ?_ ⟨hI1,hL1,hK1⟩).mono ?_
  ·rintro k hk W ⟨hi,hl,hd⟩
   have hy:=run_yield (P:=P) (args:=args[k]) hl (by rw [← hr0];exact hps k hk);rw [← hr0] at hy;refine ⟨fn,_,assign,body,hy,roundIn_of_wpIn hfn (hassign _ k hk W _ hi ?_)⟩;clear hy;intro a' Wa hkfa hkpa hia hax;have hla:=hkfa.same _ _ (by omega) hl rfl;have hda:=hkfa.same _ _ (Nat.le_refl _) hd rfl;have hlt:w.heap.size + 1 < Wa.heap.size:=(Array.getElem?_eq_some_iff.1 hla).1;refine ⟨_,run_beginRound hla (by rw [← hr0]),?_⟩
   have hl2:(Wa.putObj (w.heap.size + 1) (.loop { rec .ready none with state:=.busy })).heap[w.heap.size + 1]? = some (.loop { rec .ready none with state:=.busy }):=World.putObj_heap_same hlt;have hd2:(Wa.putObj (w.heap.size + 1) (.loop { rec .ready none with state:=.busy })).heap[w.heap.size]? = some (.deferred (some [])):=(World.putObj_heap_other (by omega)).trans hda;have hw2:=hKb Wa _ (.loop { rec .ready none with state:=.busy }) hla rfl rfl
   refine wpIn_mono (hbody _ k hk a' _ (hI.putObj _ hia (by omega) hla rfl) ((hAx k a').putObj (s:=()) _ hax (by omega) hla rfl)) ?_
   have fin:∀ (jump:Option Code) (W3:World),KeepsFrom w.heap.size (Wa.putObj (w.heap.size + 1) (.loop { rec .ready none with state:=.busy })) W3 →
     (Instr.endRound (w.heap.size + 1) jump).run P W3 = .ok (.bool jump.isNone) (W3.putObj (w.heap.size + 1) (.loop (rec (if jump.isNone then .ready else .done) jump))) ∧
     (∃ o,W3.heap[w.heap.size + 1]? = some (.loop o)) ∧
     (W3.putObj (w.heap.size + 1) (.loop (rec (if jump.isNone then .ready else .done) jump))).heap[w.heap.size + 1]? = some (.loop (rec (if jump.isNone then .ready else .done) jump)) ∧
     (W3.putObj (w.heap.size + 1) (.loop (rec (if jump.isNone then .ready else .done) jump))).heap[w.heap.size]? = some (.deferred (some [])):=fun jump W3 hk3 => by
    have hl3:=hk3.same _ _ (by omega) hl2 rfl;have:=run_endRound (P:=P) jump hl3;rw [← hr0] at this ⊢;exact ⟨this,⟨_,hl3⟩,World.putObj_heap_same (Array.getElem?_eq_some_iff.1 hl3).1,(World.putObj_heap_other (by omega)).trans (hk3.same _ _ (Nat.le_refl _) hd2 rfl)⟩
   rintro e a3 W3 hp
   cases e with
   | normal =>
    obtain ⟨hk3,hkp3,hi3⟩:=hp;obtain ⟨hr,⟨o,hl3⟩,hl4,hd4⟩:=fin none W3 hk3;exact ⟨_,_,hr,.inl ⟨rfl,⟨hI.putObj _ hi3 (by omega) hl3 rfl,hl4,hd4⟩,hkpa.trans ((hw2.trans hkp3).trans (hKb _ _ _ hl3 rfl rfl))⟩⟩
   | ret =>
    obtain ⟨hk3,hi3⟩:=hp;obtain ⟨hr,⟨o,hl3⟩,hl4,hd4⟩:=fin (some .ret) W3 hk3;exact ⟨_,_,hr,.inr ⟨rfl,.ret,(hIx _).putObj _ hi3 (by omega) hl3 rfl,hl4,hd4⟩⟩
   | exit id =>
    obtain ⟨hk3,hi3⟩:=hp;obtain ⟨hr,⟨o,hl3⟩,hl4,hd4⟩:=fin (some (.exit id)) W3 hk3;exact ⟨_,_,hr,.inr ⟨rfl,.exit id,(hIx _).putObj _ hi3 (by omega) hl3 rfl,hl4,hd4⟩⟩
   | goto t =>
    obtain ⟨hk3,hi3⟩:=hp;obtain ⟨hr,⟨o,hl3⟩,hl4,hd4⟩:=fin (some (.goto t)) W3 hk3;exact ⟨_,_,hr,.inr ⟨rfl,.goto t,(hIx _).putObj _ hi3 (by omega) hl3 rfl,hl4,hd4⟩⟩
   | panic ch => exact hp.elim
   | outgrown => exact hp.elim
  ·rintro e W2 ⟨⟨v,rfl⟩,(⟨hi,hl,hd⟩ | ⟨k,hk,c,hi,hl,hd⟩)⟩
   ·exact ⟨none,_,by have:=run_endLoop (P:=P) hl (by rw [← hr0];simp);rw [← hr0] at this;exact this,hdone _ _ (Nat.le_refl _) (hI.putObj _ hi (by omega) hl rfl) ((World.putObj_heap_other (by omega)).trans hd)⟩
   ·exact ⟨some c,_,by have:=run_endLoop (P:=P) hl (by rw [← hr0];simp);rw [← hr0] at this;exact this,hstop _ c k _ (Nat.le_refl _) hk ((hIx c).putObj _ hi (by omega) hl rfl) ((World.putObj_heap_other (by omega)).trans hd)⟩
variable {F:Fence} {n:Nat} {P:Program}
def idxS (s:ByteArray):Int:=if slashS s < s.size then slashS s else -1
theorem indexByte_eq (l:List UInt8):Lib.indexByte l 47 = if slashAt l < l.length then (slashAt l:Int) else -1:=by
 induction l with
 | nil => rfl
 | cons c r ih =>
  unfold Lib.indexByte;unfold slashAt at ih ⊢;rw [List.findIdx_cons,ih]
  by_cases hc:c = 47
  ·simp [hc]
  ·have hb:(c == 47) = false:=by simp [hc]
   rw [hb];have:List.findIdx (fun x => x == 47) r≤r.length:=List.findIdx_le_length
   by_cases h:List.findIdx (fun x => x == 47) r < r.length
   ·rw [if_pos h];simp only [cond_false,Bool.false_eq_true,if_false,List.length_cons]
    rw [if_neg (by simp),if_pos (by omega)];omega
   ·rw [if_neg h];simp [h]
theorem idxS_eq (s:ByteArray):Lib.indexByte s.data.toList 47 = idxS s:=by
 rw [indexByte_eq,idxS,sz];rfl
theorem run_idx (s:ByteArray) (w:World) :
  (callFunc 302 #[.string s,.int .u8 47]).run Tryz.prog w = .ok (.value (.int .i64 (idxS s))) w:=by
 rw [run_callFunc_indexByte (fn:=Tryz.f302) Tryz.func302 (by kernel_rfl) (by kernel_rfl) (by kernel_rfl) (by kernel_rfl),Lib.run_indexByteString];show Result.ok (Next.value (.int .i64 (Lib.indexByte s.data.toList 47))) w = _
 rw [idxS_eq]
set_option maxRecDepth 100000 in
theorem Index_slash (s:ByteArray) (w:World) :
  Calls Tryz.prog 237 #[.string s,.string ⟨#[47]⟩] w fun e w' => e = .returned (.int .i64 (idxS s))∧w = w':=by
 have hrun:=run_idx;have e47:((⟨#[47]⟩:ByteArray)[0]'(by decide)).toNat = 47:=rfl
 by_cases h:s.toList = [47]
 ·have H:Hid (idxS s = 0):=by
   show _ = _
   rw [tl] at h;rw [← idxS_eq,h];rfl
  go_enter Tryz.func237,Tryz.ntmps237
  go_wp2;go_ret;exact ⟨ret_int (by rw [H.out]),rfl⟩
 ·have h':([47] == s.toList) = false:=by rw [beq_eq_false_iff_ne];exact fun e => h e.symm
  go_enter Tryz.func237,Tryz.ntmps237
  go_wp2;go_ret;exact ⟨rfl,rfl⟩
theorem byteb (c:UInt8):((c.toNat:Int) == 47) = decide (c = 47):=by
 rw [Bool.eq_iff_iff,beq_iff_eq,decide_eq_true_eq,← UInt8.toNat_inj];show _↔c.toNat = 47
 omega
theorem LastIndexByte_slash (s:ByteArray) (w:World) (hs:s.size≤40000) :
  Calls Tryz.prog 206 #[.string s,.int .u8 47] w fun e w' => e = .returned (.int .i64 (lastSlS s))∧w = w':=by
 go_enter Tryz.func206,Tryz.ntmps206
 go_wp2
 go_loop [5] (fun i => ∃ k:Nat,k≤s.size∧i = .int .i64 ((k:Int) - 1)∧Hid (lastSlS s = lastSlFrom s.data.toList k)) (fun i => (intOf i + 1).toNat)
 case atStart => exact ⟨s.size,Nat.le_refl _,rfl,rfl⟩
 case round =>
  obtain ⟨k,hk,rfl,HK⟩:=hrel
  cases k with
  | zero =>
   go_wp2;go_ret;exact ⟨ret_int (by rw [HK.out];rfl),rfl⟩
  | succ k =>
   have hlt:k < s.size:=by omega
   have ek:(((k + 1:Nat):Int) - 1) = (k:Int):=by omega
   rw [ek];clear ek;have hg:=getD_at s k hlt
   by_cases hc:s[k] = 47
   ·have hb:((s[k].toNat:Int) == 47) = true:=by rw [byteb];simp [hc]
    have HF:Hid (lastSlS s = k):=by show _ = _;rw [HK.out,lastSlFrom,if_pos (by rw [hg,hc])]
    clear hg hc;go_wp2;go_ret;exact ⟨ret_int (by rw [HF.out]),rfl⟩
   ·have hb:((s[k].toNat:Int) == 47) = false:=by rw [byteb];simp [hc]
    have HF:Hid (lastSlS s = lastSlFrom s.data.toList k):=by show _ = _;rw [HK.out,lastSlFrom,if_neg (by rw [hg];exact hc)]
    clear hg hc;go_wp2
    go_round
    case rel => exact ⟨k,by omega,rfl,HF⟩
    case measure => simp [intOf]
end Go.Proofs.YtdpnfkjafhbndaaGreatDoor
namespace Go.Proofs.YtdpnfkjafhbndaaGreatDoor
open Go.RowKit Go.Shelf
attribute [local go_sem] Oper.semAt_some
def bOf (l:List UInt8):ByteArray:=⟨l.toArray⟩
theorem data_bOf (l:List UInt8):(bOf l).data.toList = l:=rfl
def partsOf (s:ByteArray):List (Array Value):=(split s.data.toList).map fun l => #[.string (bOf l)]
theorem partsOf_some {s:ByteArray} (h:slashS s < s.size):partsOf s = #[.string (s.extract 0 (slashS s))] :: partsOf (s.extract (slashS s + 1) s.size):=by
 unfold partsOf;rw [split_some (by rw [sz];exact h),List.map_cons,ex_end,← ex_take];rfl
theorem partsOf_none {s:ByteArray} (h:¬ slashS s < s.size):partsOf s = [#[.string s]]:=by
 have:slashS s = s.size:=by
  have:slashS s≤s.size:=by rw [← sz];exact slashAt_le _
  omega
 unfold partsOf;rw [split_none (by rw [sz];exact this)];rfl
def cellLen (w:World) (a:Addr):Nat:=match w.cell? a with | some (.string t) => t.size | _ => 0
theorem cellLen_eq {w:World} {a:Addr} {t:ByteArray} (h:w.cell? a = some (.string t)):cellLen w a = t.size:=by simp [cellLen,h]
theorem drop_cons {α:Type} {l:List α} {k:Nat} {x:α} {r:List α} (h:l.drop k = x :: r):∃ hk:k < l.length,l[k] = x∧l.drop (k + 1) = r:=by
 have hk:k < l.length:=by
  refine Nat.lt_of_not_le fun hle => ?_;rw [List.drop_eq_nil_of_le hle] at h;cases h
 rw [List.drop_eq_getElem_cons hk] at h
 cases h
 exact ⟨hk,rfl,rfl⟩
theorem splitSeq1_iter (s:ByteArray) (hs:s.size≤40000) (w:World) (Bs Bp Bv n₀:Nat) (hn:n₀≤w.heap.size) (b1:Bs < n₀) (b2:Bp < n₀) (b3:Bv < n₀) (hne1:Bs≠Bp) (hne2:Bs≠Bv)
  (c1:w.cell? ⟨Bs,0,none⟩ = some (.string s)) (f1:w.frozen? ⟨Bs,0,none⟩ = false) (c2:w.cell? ⟨Bp,0,none⟩ = some (.string ⟨#[47]⟩)) (c3:w.cell? ⟨Bv,0,none⟩ = some (.int .i64 0)) :
  Iter Fence.wide 4 Tryz.prog 235 #[.pointer (some ⟨Bp,0,none⟩),.pointer (some ⟨Bs,0,none⟩),.pointer (some ⟨Bv,0,none⟩)] (partsOf s) n₀ (fun A B => ∃ v,B = A.setCell ⟨Bs,0,none⟩ v) w:=by
 intro l J Jx W hW hJ hJx hY h0;have d1:W.cell? ⟨Bs,0,none⟩ = some (.string s):=(hW.cell (p:=⟨Bs,0,none⟩) (by show Bs < _;omega)).trans c1;have d2:W.cell? ⟨Bp,0,none⟩ = some (.string ⟨#[47]⟩):=(hW.cell (p:=⟨Bp,0,none⟩) (by show Bp < _;omega)).trans c2;have d3:W.cell? ⟨Bv,0,none⟩ = some (.int .i64 0):=(hW.cell (p:=⟨Bv,0,none⟩) (by show Bv < _;omega)).trans c3;have g1:W.frozen? ⟨Bs,0,none⟩ = false:=(hW.frozen (p:=⟨Bs,0,none⟩) (by show Bs < _;omega)).trans f1;clear c1 f1 c2 c3 hW;have HY:=lH hY;have HJ:=lH hJ;have HJx:=lH hJx
 clear hY hJ hJx;show CallsIn Fence.wide 4 Tryz.prog 235 #[.func (.yield l) #[] #[],.pointer (some ⟨Bp,0,none⟩),.pointer (some ⟨Bs,0,none⟩),.pointer (some ⟨Bv,0,none⟩)] W _
 refine callsIn_of_wp Tryz.func235 rfl trivial ?_ rfl;simp only [Tryz.ntmps235,List.size_toArray,List.length_cons,List.length_nil,Nat.reduceAdd,Nat.reduceSub,Array.replicate_succ,Array.replicate_zero,List.push_toArray,List.append_toArray,List.nil_append,List.cons_append]
 gi_wp2
 gi_loopw [7] (fun _ wr => ∃ (k:Nat) (t:ByteArray),t.size≤40000∧wr.cell? ⟨Bs,0,none⟩ = some (.string t)∧wr.cell? ⟨Bp,0,none⟩ = some (.string ⟨#[47]⟩)∧wr.cell? ⟨Bv,0,none⟩ = some (.int .i64 0)∧wr.frozen? ⟨Bs,0,none⟩ = false∧Hid ((partsOf s).drop k = partsOf t)∧J k wr)
  (fun _ wr => cellLen wr ⟨Bs,0,none⟩)
 case atStart => exact ⟨0,s,hs,d1,d2,d3,g1,rfl,h0⟩
 case round =>
  obtain ⟨k,t,ht,e1,e2,e3,q1,HD,hJk⟩:=hrel;clear d1 d2 d3 g1 h0
  by_cases hlt:slashS t < t.size
  ·have HI:Hid (idxS t = slashS t):=by show _ = _;unfold idxS;rw [if_pos hlt]
   obtain ⟨hk,ha,hd⟩:=drop_cons (HD.out.trans (partsOf_some hlt));have HD2:=lH hd;clear hd;have hy:=HY.out k hk wr hJk;rw [ha] at hy;obtain ⟨fn,tmps,assign,body,hy,hR⟩:=hy;clear ha;generalize hm:slashS t = m at *;have HM:=lH hm;clear hm
   gi_wp2_with (refine ⟨trivial,?_⟩;gi_at_call 237;refine (callsIn_wide.2 (Index_slash _ _)).mono ?_;rintro e w' ⟨rfl,rfl⟩;rw [HI.out])
   refine hR.mono ?_;rintro e W3 (⟨rfl,hJ3,hk3⟩ | ⟨rfl,hJx3⟩)
   ·have e1':W3.cell? ⟨Bs,0,none⟩ = some (.string t):=(hk3.cell (p:=⟨Bs,0,none⟩) b1).trans e1
    have e2':W3.cell? ⟨Bp,0,none⟩ = some (.string ⟨#[47]⟩):=(hk3.cell (p:=⟨Bp,0,none⟩) b2).trans e2;have e3':W3.cell? ⟨Bv,0,none⟩ = some (.int .i64 0):=(hk3.cell (p:=⟨Bv,0,none⟩) b3).trans e3;have q1':W3.frozen? ⟨Bs,0,none⟩ = false:=(hk3.frozen (p:=⟨Bs,0,none⟩) b1).trans q1;have hJ4:=lH (HJ.out (k + 1) W3 (W3.setCell ⟨Bs,0,none⟩ (.string (t.extract (m + 1) t.size))) hJ3 ⟨_,rfl⟩);clear hR hy
    gi_wp2
    go_roundw
    case rel =>
     refine ⟨k + 1,t.extract (m + 1) t.size,by simp;omega,World.cell?_setCell_same' _ _ _ (by rw [e1'];rfl),?_,?_,?_,?_,hJ4.out⟩
     ·rw [cell_far _ _ _ _ (by show Bp≠Bs;omega)];exact e2'
     ·rw [cell_far _ _ _ _ (by show Bv≠Bs;omega)];exact e3'
     ·rw [World.frozen?_setCell];exact q1'
     ·show _ = _
      rw [HD2.out]
    case measure =>
     rw [cellLen_eq e1,cellLen_eq (World.cell?_setCell_same' _ _ _ (by rw [e1'];rfl))];simp;omega
   ·gi_wp2
    refine bodyPost_ret (results_none rfl _ _ _) rfl ?_;exact ⟨⟨_,rfl⟩,.inr ⟨k + 1,by omega,hJx3⟩⟩
  ·have HI:Hid (idxS t = -1):=by show _ = _;unfold idxS;rw [if_neg hlt]
   obtain ⟨hk,ha,hd⟩:=drop_cons (HD.out.trans (partsOf_none hlt))
   have hlen:k + 1 = (partsOf s).length:=by
    have:=congrArg List.length hd;rw [List.length_drop,List.length_nil] at this;omega
   have HL:=lH hlen;clear hd hlen;have hy:=HY.out k hk wr hJk;rw [ha] at hy;obtain ⟨fn,tmps,assign,body,hy,hR⟩:=hy;clear ha
   gi_wp2_with (refine ⟨trivial,?_⟩;gi_at_call 237;refine (callsIn_wide.2 (Index_slash _ _)).mono ?_;rintro e w' ⟨rfl,rfl⟩;rw [HI.out])
   refine hR.mono ?_;rintro e W3 (⟨rfl,hJ3,hk3⟩ | ⟨rfl,hJx3⟩)
   ·clear hR hy
    gi_wp2
    go_end0
    exact ⟨⟨_,rfl⟩,.inl (by rw [← HL.out];exact hJ3)⟩
   ·clear hR hy
    gi_wp2
    go_end0
    exact ⟨⟨_,rfl⟩,.inr ⟨k + 1,by omega,hJx3⟩⟩
end Go.Proofs.YtdpnfkjafhbndaaGreatDoor
namespace Go.Proofs.YtdpnfkjafhbndaaGreatDoor
open Go.RowKit
def memS (s:ByteArray) (ss:List ByteArray):Bool:=ss.any fun t => s.data.toList == t.data.toList
def IdxPost (s:ByteArray) (ss:List ByteArray) (w:World) (e:Ending) (w':World):Prop:=∃ r:Int,e = .returned (.int .i64 r)∧decide (0≤r) = memS s ss∧w = w'
theorem memS_at {s:ByteArray} {ss:List ByteArray} {k:Nat} (hk:k < ss.length) (h:(s.toList == (ss.getD k ByteArray.empty).toList) = true):memS s ss = true:=by
 rw [memS,List.any_eq_true];refine ⟨ss[k],List.getElem_mem hk,?_⟩;rw [List.getD_eq_getElem?_getD,List.getElem?_eq_getElem hk,tl,tl] at h;exact h
theorem memS_none {s:ByteArray} {ss:List ByteArray} (h:∀ k,k < ss.length→(s.toList == (ss.getD k ByteArray.empty).toList) = false):memS s ss = false:=by
 rw [memS,List.any_eq_false];intro t ht;obtain ⟨k,hk,rfl⟩:=List.getElem_of_mem ht;have:=h k hk;rw [List.getD_eq_getElem?_getD,List.getElem?_eq_getElem hk,tl,tl] at this;rw [Bool.not_eq_true];exact this
theorem SIndex_any (v:Value) (s:ByteArray) (ss:List ByteArray) (w:World) (hv:Strs w v ss) (hn:ss.length≤40000) :
  Calls Tryz.prog 183 #[v,.string s] w (IdxPost s ss w):=by
 obtain ⟨a,cap,rfl,h1,h2,h3⟩:=hv.shape;have HV:=lH h3;clear h3 hv
 go_enter Tryz.func183,Tryz.ntmps183
 go_wp2
 go_loop [8] (fun i => ∃ k:Nat,k≤ss.length∧i = .int .i64 k∧Hid (∀ j,j < k→(s.toList == (ss.getD j ByteArray.empty).toList) = false)) (fun i => ss.length - (intOf i).toNat)
 case atStart => exact ⟨0,Nat.zero_le _,rfl,fun j hj => by omega⟩
 case round =>
  obtain ⟨k,hk,rfl,HK⟩:=hrel
  by_cases hlt:k < ss.length
  ·obtain ⟨b,o,rfl,hb,hc⟩:=HV.out k hlt
   have hcell:=hc k hlt;clear hc;generalize ht:ss.getD k ByteArray.empty = t at *;have HT:=lH ht;clear ht
   cases he:(s.toList == t.toList) with
   | true =>
    have HM:Hid (memS s ss = true):=memS_at hlt (by rw [HT.out,he]);go_wp2;go_ret;exact ⟨k,rfl,by rw [HM.out];simp,rfl⟩
   | false =>
    have HN:Hid (∀ j,j < k + 1→(s.toList == (ss.getD j ByteArray.empty).toList) = false):=fun j hj => by
     by_cases e:j = k
     ·rw [e,HT.out,he]
     ·exact HK.out j (by omega)
    go_wp2
    go_round
    case rel => exact ⟨k + 1,by omega,by go_num,HN⟩
    case measure => simp [intOf];omega
  ·have HM:Hid (memS s ss = false):=memS_none (fun j hj => HK.out j (by omega))
   go_wp2;go_ret;exact ⟨-1,rfl,by rw [HM.out];rfl,rfl⟩
theorem SContains_any (v:Value) (s:ByteArray) (ss:List ByteArray) (w:World) (hv:Strs w v ss) (hn:ss.length≤40000) :
  Calls Tryz.prog 124 #[v,.string s] w fun e w' => e = .returned (.bool (memS s ss))∧w = w':=by
 have HV:=lH hv;clear hv
 go_enter Tryz.func124,Tryz.ntmps124
 go_wp2_with (go_at_call 183;refine (SIndex_any _ _ _ _ HV.out hn).mono ?_;rintro e w' ⟨r,rfl,hr,rfl⟩)
 go_ret;exact ⟨rfl,rfl⟩
end Go.Proofs.YtdpnfkjafhbndaaGreatDoor

