/- exprmerge.merge is mergeX; the reference's, too. The reference's merge of expressions is mergeX. -/
import Derived.Test.YtdpnfkjafhbndaaGreatDoorRGC
namespace Go.Proofs.YtdpnfkjafhbndaaGreatDoor
open Go.RowKit Go.Shelf
attribute [local go_sem] Oper.semAt_some
theorem and_four {p q r s:Bool} (h:true = (p && (q && (r && !s)))):p = true∧q = true∧s = false:=by cases p <;> cases q <;> cases r <;> cases s <;> simp_all
theorem clash_reads {w:World} {X:List Nat} {R:Nat} {b l r:Ex} {ba la ra:Option Addr} {bc lc rc:Nat} (h:CBox w R 66 #[.int .i64 l.kind,.string l.name,.string l.more,.int .i64 l.num,.int .i64 l.den,.slice la l.subs.length lc,.int .i64 b.kind,.string b.name,.string b.more,.int .i64 b.num,.int .i64 b.den,.slice ba b.subs.length bc,.int .i64 r.kind,.string r.name,.string r.more,.int .i64 r.num,.int .i64 r.den,.slice ra r.subs.length rc]) (hR:R ∉ X)
    (hl:Reads w X (subsT l.subs) (.slice la l.subs.length lc)) (hb:Reads w X (subsT b.subs) (.slice ba b.subs.length bc)) (hr:Reads w X (subsT r.subs) (.slice ra r.subs.length rc)):Reads w X (subsT [l,b,r]) (.slice (some ⟨R,0,none⟩) 3 3):=by
  refine Reads.ofRow (f:=exprT) (l:=[l,b,r]) (xs:=_) ⟨rfl,some ⟨R,0,none⟩,3,rfl,Nat.le_refl _,by unfold maxLen;omega,fun _ => ⟨R,0,rfl,h.lt,fun j u hj => ?_⟩⟩ (fun _ k hk => by cases hk;exact hR) (ReadsL.append (ReadsL.append (ReadsL.append (ReadsL.nil _ _) (cells_expr hr)) (cells_expr hb)) (cells_expr hl))
  rw [Nat.zero_add]
  exact h.cell (i:=j) (v:=u) (by rw [← hj,List.getElem?_toArray];rfl)
set_option maxRecDepth 100000 in
set_option maxHeartbeats 16000000 in
theorem xmerge_any (b:Ex):∀ (l r:Ex) (ba la ra:Option Addr) (bc lc rc:Nat) (X:List Nat) (w:World),(∀ k,k∈X→k < w.heap.size)→ExIn w X b ba bc→ExIn w X l la lc→ExIn w X r ra rc→nodesN b≤1000000→nodesN l≤1000000→nodesN r≤1000000 →
  Calls Tryz.prog 263 #[exV b ba bc,exV l la lc,exV r ra rc] w fun e w' => ∃ a c,e = .returned (exV (mergeX b l r) a c)∧ExIn w' X (mergeX b l r) a c∧Bw w w':=by
 refine Ex.ind (P:=fun b => ∀ (l r:Ex) (ba la ra:Option Addr) (bc lc rc:Nat) (X:List Nat) (w:World),(∀ k,k∈X→k < w.heap.size)→ExIn w X b ba bc→ExIn w X l la lc→ExIn w X r ra rc→nodesN b≤1000000→nodesN l≤1000000→nodesN r≤1000000 →
  Calls Tryz.prog 263 #[exV b ba bc,exV l la lc,exV r ra rc] w fun e w' => ∃ a c,e = .returned (exV (mergeX b l r) a c)∧ExIn w' X (mergeX b l r) a c∧Bw w w') (fun b ih => ?_) b
 intro l r ba la ra bc lc rc X w hX hb hl hr hNb hNl hNr;have HIH:=lH ih;have HXX:=lH hX;have HBI:=lH hb;have HLI:=lH hl;have HRI:=lH hr;have HE1:=lH (fun W (h:Bw w W) => equal_any l r la ra lc rc W (hl.below h).subs.free (hr.below h).subs.free (by omega));have HE2:=lH (fun W (h:Bw w W) => equal_any r b ra ba rc bc W (hr.below h).subs.free (hb.below h).subs.free (by omega));have HE3:=lH (fun W (h:Bw w W) => equal_any l b la ba lc bc W (hl.below h).subs.free (hb.below h).subs.free (by omega));have HA1:=lH (fun W => alike_any b l ba la bc lc W)
 have HA2:=lH (fun W => alike_any b r ba ra bc rc W);have HM:Hid (mergeX b l r = if sameX l r || sameX r b then l else if sameX l b then r else if recB b l r then deepX b l r else clashX b l r):=mergeX_eq b l r;have HRB:Hid (recB b l r = (alikeB b l && (alikeB b r && (!(b.kind == 15) && !b.subs.isEmpty)))):=rfl;have HL1:=lH (alikeB_len (a:=b) (b:=l));have HL2:=lH (alikeB_len (a:=b) (b:=r));clear ih hX hb hl hr;obtain ⟨gb,gl,gr,go,hA,hs4⟩:=four_boxes w 66 (xA b ba bc) (xA l la lc) (xA r ra rc) xZ;generalize mergeX b l r = T at *
 obtain ⟨q12,HQ⟩:∃ q,Hid (q = (sameX l r || sameX r b)):=⟨_,rfl⟩;have HM:Hid (T = if q12 then l else if sameX l b then r else if recB b l r then deepX b l r else clashX b l r):=by show _ = _;rw [HQ.out];exact HM.out
 generalize sameX l r = q1 at *;generalize sameX r b = q2 at *;generalize sameX l b = q3 at *;generalize recB b l r = rb at *;generalize alikeB b l = p1 at *;generalize alikeB b r = p2 at *;unfold exV at *
 go_enter Tryz.func263,Tryz.ntmps263
 go_upto_region 1 with (fail)
 generalize ((((w.alloc (.cells (xA b ba bc) 66)).alloc (.cells (xA l la lc) 66)).alloc (.cells (xA r ra rc) 66)).alloc (.cells xZ 66)) = W0 at *;generalize hn1:w.heap.size + 1 = n1 at *;generalize hn2:n1 + 1 = n2 at *;generalize hn3:n2 + 1 = n3 at *;have m1:w.heap.size < n1:=by omega
 have m2:n1 < n2:=by omega
 have m3:n2 < n3:=by omega
 have hsW:n3 < W0.heap.size:=by omega
 have hwW:w.heap.size≤W0.heap.size:=by omega
 clear hn1 hn2 hn3 hs4;have Gb:=lH gb;have Gl:=lH gl;have Gr:=lH gr;have Go:=lH go;clear gb gl gr go
 go_cut [17] from 10 to 17 (fun v wx => v = .bool q12∧Bw W0 wx)
 case first =>
  obtain ⟨l0,l1,l2,l3,l4,l5,ll⟩:=cells6 Gl.out;obtain ⟨r0,r1,r2,r3,r4,r5,rl⟩:=cells6 Gr.out;go_wp2_with (fail)
  refine (HE1.out _ hA).mono ?_;rintro e w1 ⟨rfl,hb1⟩;clear l0 l1 l2 l3 l4 l5 ll r0 r1 r2 r3 r4 r5 rl
  cases q1 with
  | true =>
   have HQ2:Hid (q12 = true):=by show _ = _;rw [HQ.out];rfl
   clear HQ HM;go_wp2;go_meet
   case rel => exact ⟨by rw [HQ2.out],hb1⟩
  | false =>
   obtain ⟨r0,r1,r2,r3,r4,r5,rl⟩:=cells6 (Gr.out.below hb1);obtain ⟨b0,b1,b2,b3,b4,b5,bl⟩:=cells6 (Gb.out.below hb1);have HQ2:Hid (q12 = q2):=by show _ = _;rw [HQ.out];rfl
   clear HQ HM;go_wp2_with (fail)
   refine (HE2.out _ (qtrans hA hb1)).mono ?_;rintro e w2 ⟨rfl,hb2⟩;clear r0 r1 r2 r3 r4 r5 rl b0 b1 b2 b3 b4 b5 bl;go_wp2;go_meet
   case rel => exact ⟨by rw [HQ2.out],qtrans hb1 hb2⟩
 case rest =>
 obtain ⟨rfl,hb1⟩:=hcut;generalize wc = w1 at *;have hw1:=qtrans hA hb1;clear HE1 HE2 HQ
 cases q12 with
 | true =>
  have HT:Hid (T = l):=by show _ = _;rw [HM.out];rfl
  clear HM HIH HE3 HA1 HA2 HL1 HL2 HRB;obtain ⟨l0,l1,l2,l3,l4,l5,ll⟩:=cells6 (Gl.out.below hb1);obtain ⟨o0,o1,o2,o3,o4,o5,ol⟩:=cells6 (Go.out.below hb1);obtain ⟨fo0,fo1,fo2,fo3,fo4,fo5⟩:=frozen6 (Go.out.below hb1);go_wp2;clear l0 l1 l2 l3 l4 l5 ll o0 o1 o2 o3 o4 o5 fo0 fo1 fo2 fo3 fo4 fo5 ol;obtain ⟨HC9,HM9⟩:=CBox.six (Go.out.below hb1) (.int .i64 l.kind) (.string l.name) (.string l.more) (.int .i64 l.num) (.int .i64 l.den) (.slice la l.subs.length lc);generalize World.setCell _ ⟨n3,5,none⟩ _ = W9 at *;obtain ⟨r0,r1,r2,r3,r4,r5,-⟩:=cells6 HC9
  refine bodyPost_ret (by simp [results,Tryz.results263,go_sem,r0,r1,r2,r3,r4,r5];try rfl) rfl ?_;have hd9:Bw w W9:=hw1.trans (HM9.upto hw1.size (by intro k hk;simp at hk;omega));have hT:T = l:=HT.out;clear HT;subst hT;exact ⟨la,lc,rfl,HLI.out.below hd9,hd9⟩
 | false =>
  cases q3 with
  | true =>
   have HT:Hid (T = r):=by show _ = _;rw [HM.out];rfl
   clear HM HIH HA1 HA2 HL1 HL2 HRB;obtain ⟨l0,l1,l2,l3,l4,l5,ll⟩:=cells6 (Gl.out.below hb1);obtain ⟨b0,b1,b2,b3,b4,b5,bl⟩:=cells6 (Gb.out.below hb1);go_wp2_with (fail)
   refine (HE3.out _ hw1).mono ?_;rintro e w2 ⟨rfl,hb2⟩;have hb12:=qtrans hb1 hb2;have hw2:=qtrans hw1 hb2;clear l0 l1 l2 l3 l4 l5 ll b0 b1 b2 b3 b4 b5 bl;obtain ⟨r0,r1,r2,r3,r4,r5,rl⟩:=cells6 (Gr.out.below hb12);obtain ⟨o0,o1,o2,o3,o4,o5,ol⟩:=cells6 (Go.out.below hb12);obtain ⟨fo0,fo1,fo2,fo3,fo4,fo5⟩:=frozen6 (Go.out.below hb12);go_wp2;clear r0 r1 r2 r3 r4 r5 rl o0 o1 o2 o3 o4 o5 fo0 fo1 fo2 fo3 fo4 fo5 ol
   obtain ⟨HC9,HM9⟩:=CBox.six (Go.out.below hb12) (.int .i64 r.kind) (.string r.name) (.string r.more) (.int .i64 r.num) (.int .i64 r.den) (.slice ra r.subs.length rc);generalize World.setCell _ ⟨n3,5,none⟩ _ = W9 at *;obtain ⟨r0,r1,r2,r3,r4,r5,-⟩:=cells6 HC9;refine bodyPost_ret (by simp [results,Tryz.results263,go_sem,r0,r1,r2,r3,r4,r5];try rfl) rfl ?_;have hd9:Bw w W9:=hw2.trans (HM9.upto hw2.size (by intro k hk;simp at hk;omega));have hT:T = r:=HT.out;clear HT;subst hT;exact ⟨ra,rc,rfl,HRI.out.below hd9,hd9⟩
  | false =>
   obtain ⟨l0,l1,l2,l3,l4,l5,ll⟩:=cells6 (Gl.out.below hb1);obtain ⟨b0,b1,b2,b3,b4,b5,bl⟩:=cells6 (Gb.out.below hb1);go_wp2_with (fail)
   refine (HE3.out _ hw1).mono ?_;rintro e w2 ⟨rfl,hb2⟩;go_upto_region 5 with (fail)
   have hb12:=qtrans hb1 hb2;have hw2:=qtrans hw1 hb2;clear HE3 hb1 hb2 hw1 l0 l1 l2 l3 l4 l5 ll b0 b1 b2 b3 b4 b5 bl
   go_cut [41] from 23 to 41 (fun v wx => v = .bool rb∧Bw W0 wx)
   case first =>
    have HK:Hid ((!(b.kind == 15)) = (b.kind != 15)):=rfl;have HP:Hid ((!b.subs.isEmpty) = decide (0 < b.subs.length)∧((b.subs.length:Int) == 0) = b.subs.isEmpty):=⟨by cases b.subs with | nil => rfl | cons y s => simp,by cases b.subs with | nil => rfl | cons y s => simp;omega⟩;obtain ⟨b0,b1,b2,b3,b4,b5,bl⟩:=cells6 (Gb.out.below hb12);obtain ⟨l0,l1,l2,l3,l4,l5,ll⟩:=cells6 (Gl.out.below hb12);go_wp2_with (fail)
    refine (HA1.out _).mono ?_;rintro e w3 ⟨rfl,hb3⟩;have hb13:=qtrans hb12 hb3;clear b0 b1 b2 b3 b4 b5 bl l0 l1 l2 l3 l4 l5 ll
    cases p1 with
    | false =>
     have HF:Hid (rb = false):=by show _ = _;rw [HRB.out];rfl
     clear HRB HM HK HP HL1 HL2;go_wp2;go_meet
     case rel => exact ⟨by rw [HF.out],hb13⟩
    | true =>
     obtain ⟨b0,b1,b2,b3,b4,b5,bl⟩:=cells6 (Gb.out.below hb13);obtain ⟨r0,r1,r2,r3,r4,r5,rl⟩:=cells6 (Gr.out.below hb13);go_wp2_with (fail)
     refine (HA2.out _).mono ?_;rintro e w4 ⟨rfl,hb4⟩;have hb14:=qtrans hb13 hb4;clear b0 b1 b2 b3 b4 b5 bl r0 r1 r2 r3 r4 r5 rl
     cases p2 with
     | false =>
      have HF:Hid (rb = false):=by show _ = _;rw [HRB.out];rfl
      clear HRB HM HK HP HL1 HL2;go_wp2;go_meet
      case rel => exact ⟨by rw [HF.out],hb14⟩
     | true =>
      obtain ⟨b0,b1,b2,b3,b4,b5,bl⟩:=cells6 (Gb.out.below hb14)
      cases k15:(b.kind == 15) with
      | true =>
       have k15:(b.kind != 15) = false:=by rw [bne,k15];rfl
       have HF:Hid (rb = false):=by show _ = _;rw [HRB.out];rw [HK.out,k15];rfl
       clear HRB HM HK HP HL1 HL2;go_wp2;go_meet
       case rel => exact ⟨by rw [HF.out],hb14⟩
      | false =>
       have k15:(b.kind != 15) = true:=by rw [bne,k15];rfl
       have HP1:=HP.out.1
       cases kl:decide (0 < b.subs.length) with
       | true =>
        have HF:Hid (rb = true):=by show _ = _;rw [HRB.out];rw [HK.out,k15,HP1,kl];rfl
        clear HRB HM HK HP HL1 HL2;go_wp2;go_meet
        case rel => exact ⟨by rw [HF.out],hb14⟩
       | false =>
        have HF:Hid (rb = false):=by show _ = _;rw [HRB.out];rw [HK.out,k15,HP1,kl];rfl
        clear HRB HM HK HP HL1 HL2;go_wp2;go_meet
        case rel => exact ⟨by rw [HF.out],hb14⟩
   case rest =>
   obtain ⟨rfl,hb3⟩:=hcut;generalize wc = w3 at *;have hw3:=qtrans hA hb3;clear hw2 hb12;have hs3:=hb3.size;obtain ⟨i0,hi,hz0,hz1,hz2⟩:=info_parts infoExpr
   cases rb with
   | false =>
    have HT:Hid (T = clashX b l r):=by show _ = _;rw [HM.out];rfl
    clear HM HIH HA1 HA2 HL1 HL2 HRB
    have hmk:(Instr.makeSlice 64 (.int .i64 3) (.int .i64 3)).run Tryz.prog w3 = .ok (.slice (some ⟨w3.heap.size,0,none⟩) 3 3) (w3.alloc (.cells (madeCells (Value.agg #[.int .i64 0,.string ⟨#[]⟩,.string ⟨#[]⟩,.int .i64 0,.int .i64 0,.slice none 0 0]).cells 18) 66)):=by
     have:=run_makeSlice (P:=Tryz.prog) w3 64 66 i0 _ Tryz.underlying64 hi hz0 .i64 .i64 3 3 (by omega) (by omega) (by rw [hz1];decide) (by rw [hz2];decide) (by omega);rw [hz1] at this;exact this
    have hq5:=qalloc w3 (.cells (madeCells (Value.agg #[.int .i64 0,.string ⟨#[]⟩,.string ⟨#[]⟩,.int .i64 0,.int .i64 0,.slice none 0 0]).cells 18) 66);have HC5:=lH (CBox.new w3 66 (madeCells (Value.agg #[.int .i64 0,.string ⟨#[]⟩,.string ⟨#[]⟩,.int .i64 0,.int .i64 0,.slice none 0 0]).cells 18));have HZ5:Hid ((madeCells (Value.agg #[.int .i64 0,.string ⟨#[]⟩,.string ⟨#[]⟩,.int .i64 0,.int .i64 0,.slice none 0 0]).cells 18).size = 18):=size_madeCells _ _
    generalize (madeCells (Value.agg #[.int .i64 0,.string ⟨#[]⟩,.string ⟨#[]⟩,.int .i64 0,.int .i64 0,.slice none 0 0]).cells 18) = cur0 at *;generalize World.alloc w3 _ = w5 at *;have hb5:=qtrans hb3 hq5;have hw5:=qtrans hw3 hq5;have hR5:=HC5.out.lt;generalize hR:w3.heap.size = R at *;have hRn:n3 < R:=by omega
    have HRe:=lH hR;clear hR;obtain ⟨l0,l1,l2,l3,l4,l5,ll⟩:=cells6 (Gl.out.below hb5);obtain ⟨b0,b1,b2,b3,b4,b5,bl⟩:=cells6 (Gb.out.below hb5);obtain ⟨r0,r1,r2,r3,r4,r5,rl⟩:=cells6 (Gr.out.below hb5)
    have HQ8:=qalloc w5 (.cells #[.int .i64 l.kind,.string l.name,.string l.more,.int .i64 l.num,.int .i64 l.den,.slice la l.subs.length lc,.int .i64 b.kind,.string b.name,.string b.more,.int .i64 b.num,.int .i64 b.den,.slice ba b.subs.length bc,.int .i64 r.kind,.string r.name,.string r.more,.int .i64 r.num,.int .i64 r.den,.slice ra r.subs.length rc] 66)
    have HC8:=lH (HC5.out.alloc (.cells #[.int .i64 l.kind,.string l.name,.string l.more,.int .i64 l.num,.int .i64 l.den,.slice la l.subs.length lc,.int .i64 b.kind,.string b.name,.string b.more,.int .i64 b.num,.int .i64 b.den,.slice ba b.subs.length bc,.int .i64 r.kind,.string r.name,.string r.more,.int .i64 r.num,.int .i64 r.den,.slice ra r.subs.length rc] 66))
    have HN8:=lH (cell_new w5 #[.int .i64 l.kind,.string l.name,.string l.more,.int .i64 l.num,.int .i64 l.den,.slice la l.subs.length lc,.int .i64 b.kind,.string b.name,.string b.more,.int .i64 b.num,.int .i64 b.den,.slice ba b.subs.length bc,.int .i64 r.kind,.string r.name,.string r.more,.int .i64 r.num,.int .i64 r.den,.slice ra r.subs.length rc] 66)
    have hcp:=run_copy_rows (P:=Tryz.prog) (w5.alloc (.cells #[.int .i64 l.kind,.string l.name,.string l.more,.int .i64 l.num,.int .i64 l.den,.slice la l.subs.length lc,.int .i64 b.kind,.string b.name,.string b.more,.int .i64 b.num,.int .i64 b.den,.slice ba b.subs.length bc,.int .i64 r.kind,.string r.name,.string r.more,.int .i64 r.num,.int .i64 r.den,.slice ra r.subs.length rc] 66)) 64 64 3 66 6 R 3 3 ⟨w5.heap.size,0,none⟩ 3 cur0 66 [.int .i64 l.kind,.string l.name,.string l.more,.int .i64 l.num,.int .i64 l.den,.slice la l.subs.length lc,.int .i64 b.kind,.string b.name,.string b.more,.int .i64 b.num,.int .i64 b.den,.slice ba b.subs.length bc,.int .i64 r.kind,.string r.name,.string r.more,.int .i64 r.num,.int .i64 r.den,.slice ra r.subs.length rc] Tryz.underlying64 (by rw [hi,Option.map_some,hz1]) HC8.out rfl HN8.out HZ5.out.symm (by intro u hu;simp only [List.mem_cons,List.not_mem_nil,or_false] at hu;rcases hu with rfl | rfl | rfl | rfl | rfl | rfl | rfl | rfl | rfl | rfl | rfl | rfl | rfl | rfl | rfl | rfl | rfl | rfl <;> rfl)
    have hm7:Mod [R] (w5.alloc (.cells #[.int .i64 l.kind,.string l.name,.string l.more,.int .i64 l.num,.int .i64 l.den,.slice la l.subs.length lc,.int .i64 b.kind,.string b.name,.string b.more,.int .i64 b.num,.int .i64 b.den,.slice ba b.subs.length bc,.int .i64 r.kind,.string r.name,.string r.more,.int .i64 r.num,.int .i64 r.den,.slice ra r.subs.length rc] 66)) ((w5.alloc (.cells #[.int .i64 l.kind,.string l.name,.string l.more,.int .i64 l.num,.int .i64 l.den,.slice la l.subs.length lc,.int .i64 b.kind,.string b.name,.string b.more,.int .i64 b.num,.int .i64 b.den,.slice ba b.subs.length bc,.int .i64 r.kind,.string r.name,.string r.more,.int .i64 r.num,.int .i64 r.den,.slice ra r.subs.length rc] 66)).setRow R ([.int .i64 l.kind,.string l.name,.string l.more,.int .i64 l.num,.int .i64 l.den,.slice la l.subs.length lc,.int .i64 b.kind,.string b.name,.string b.more,.int .i64 b.num,.int .i64 b.den,.slice ba b.subs.length bc,.int .i64 r.kind,.string r.name,.string r.more,.int .i64 r.num,.int .i64 r.den,.slice ra r.subs.length rc]).toArray):=⟨rfl,rfl,rfl,by simp [World.setRow],fun k hk hx => setRow_other _ R k _ (fun e => hx (by simp [e]))⟩
    have hc7:CBox ((w5.alloc (.cells #[.int .i64 l.kind,.string l.name,.string l.more,.int .i64 l.num,.int .i64 l.den,.slice la l.subs.length lc,.int .i64 b.kind,.string b.name,.string b.more,.int .i64 b.num,.int .i64 b.den,.slice ba b.subs.length bc,.int .i64 r.kind,.string r.name,.string r.more,.int .i64 r.num,.int .i64 r.den,.slice ra r.subs.length rc] 66)).setRow R ([.int .i64 l.kind,.string l.name,.string l.more,.int .i64 l.num,.int .i64 l.den,.slice la l.subs.length lc,.int .i64 b.kind,.string b.name,.string b.more,.int .i64 b.num,.int .i64 b.den,.slice ba b.subs.length bc,.int .i64 r.kind,.string r.name,.string r.more,.int .i64 r.num,.int .i64 r.den,.slice ra r.subs.length rc]).toArray) R 66 #[.int .i64 l.kind,.string l.name,.string l.more,.int .i64 l.num,.int .i64 l.den,.slice la l.subs.length lc,.int .i64 b.kind,.string b.name,.string b.more,.int .i64 b.num,.int .i64 b.den,.slice ba b.subs.length bc,.int .i64 r.kind,.string r.name,.string r.more,.int .i64 r.num,.int .i64 r.den,.slice ra r.subs.length rc]:=setRow_heap _ R cur0 _ 66 _ HC8.out
    have HO7:=lH ((Go.out.below (qtrans hb5 HQ8)).mod hm7 (by simp;omega));have HD7:Hid (Bw w _):=(qtrans hw5 HQ8).trans (hm7.upto (qtrans hw5 HQ8).size (by intro k hk;simp at hk;omega));have HC7:=lH hc7;clear hm7 hc7 HC8 HN8 HC5 HZ5 HQ8;go_upto_region 16 with (fail)
    generalize ((w5.alloc (.cells #[.int .i64 l.kind,.string l.name,.string l.more,.int .i64 l.num,.int .i64 l.den,.slice la l.subs.length lc,.int .i64 b.kind,.string b.name,.string b.more,.int .i64 b.num,.int .i64 b.den,.slice ba b.subs.length bc,.int .i64 r.kind,.string r.name,.string r.more,.int .i64 r.num,.int .i64 r.den,.slice ra r.subs.length rc] 66)).setRow R ([.int .i64 l.kind,.string l.name,.string l.more,.int .i64 l.num,.int .i64 l.den,.slice la l.subs.length lc,.int .i64 b.kind,.string b.name,.string b.more,.int .i64 b.num,.int .i64 b.den,.slice ba b.subs.length bc,.int .i64 r.kind,.string r.name,.string r.more,.int .i64 r.num,.int .i64 r.den,.slice ra r.subs.length rc]).toArray) = w7 at *
    clear hmk hcp l0 l1 l2 l3 l4 l5 ll b0 b1 b2 b3 b4 b5 bl r0 r1 r2 r3 r4 r5 rl;obtain ⟨o0,o1,o2,o3,o4,o5,ol⟩:=cells6 HO7.out;obtain ⟨fo0,fo1,fo2,fo3,fo4,fo5⟩:=frozen6 HO7.out;go_wp2;clear o0 o1 o2 o3 o4 o5 fo0 fo1 fo2 fo3 fo4 fo5 ol;obtain ⟨HC9,HM9⟩:=CBox.six (HO7.out) (.int .i64 15) (.string ⟨#[]⟩) (.string ⟨#[]⟩) (.int .i64 0) (.int .i64 0) (.slice (some ⟨R,0,none⟩) 3 3);generalize World.setCell _ ⟨n3,5,none⟩ _ = W9 at *;obtain ⟨r0,r1,r2,r3,r4,r5,-⟩:=cells6 HC9
    refine bodyPost_ret (by simp [results,Tryz.results263,go_sem,r0,r1,r2,r3,r4,r5];try rfl) rfl ?_;have hd9:Bw w W9:=HD7.out.trans (HM9.upto HD7.out.size (by intro k hk;simp at hk;omega))
    have hC9:CBox W9 R 66 #[.int .i64 l.kind,.string l.name,.string l.more,.int .i64 l.num,.int .i64 l.den,.slice la l.subs.length lc,.int .i64 b.kind,.string b.name,.string b.more,.int .i64 b.num,.int .i64 b.den,.slice ba b.subs.length bc,.int .i64 r.kind,.string r.name,.string r.more,.int .i64 r.num,.int .i64 r.den,.slice ra r.subs.length rc]:=HC7.out.mod HM9 (by simp;omega);have hRX:R ∉ X:=fun h => by have:=HXX.out _ h;have:=hw3.size;have:=HRe.out;omega
    have hT:T = clashX b l r:=HT.out;clear HT;subst hT;refine ⟨some ⟨R,0,none⟩,3,rfl,?_,hd9⟩;exact ⟨clash_reads hC9 hRX (HLI.out.below hd9).subs (HBI.out.below hd9).subs (HRI.out.below hd9).subs,Nat.le_refl _,(by decide:(3:Nat)≤9223372036854775807)⟩
   | true =>
    have HT:Hid (T = deepX b l r):=by show _ = _;rw [HM.out];rfl
    obtain ⟨hp1,hp2,hbl⟩:=and_four HRB.out;have HL1:=lH (HL1.out hp1);have HL2:=lH (HL2.out hp2);clear HM HA1 HA2 HRB hp1 hp2 hbl;have hns:nodesN b = 1 + nodesL b.subs:=nodesN_eq b;have hnl:=nodesL_len b.subs;obtain ⟨b0,b1,b2,b3,b4,b5,bl⟩:=cells6 (Gb.out.below hb3);have HQ4:=lH (qalloc w3 (.cells (xA b ba bc) 66));have HE4:=lH (CBox.new w3 66 (xA b ba bc));go_upto_region 7 with (fail)
    clear b0 b1 b2 b3 b4 b5 bl;generalize World.alloc w3 _ = w4 at *;have hb4:=qtrans hb3 HQ4.out;have hw4:=qtrans hw3 HQ4.out;have HEl:=lH HE4.out.lt;obtain ⟨E,hE⟩:∃ E,w3.heap.size = E:=⟨_,rfl⟩;rw [hE] at HE4 HEl ⊢;have HEn:Hid (n3 < E):=by show _ < _;omega
    have HEw:Hid (w.heap.size < E):=by show _ < _;omega
    have HE3:Hid (w3.heap.size≤E∧W0.heap.size≤E):=⟨by omega,by omega⟩;have HW3:=lH hw3;clear hE hs3;have hmk:=run_make (P:=Tryz.prog) w4 64 66 i0 _ Tryz.underlying64 hi hz0 .i64 .i64 (b.subs.length:Int) (b.subs.length:Int) (by omega) (Int.le_refl _) (by rw [hz2];omega) (by omega);simp only [Int.toNat_natCast,hz1] at hmk
    have HC5:=lH (CBox.new w4 66 (madeCells (Value.agg #[.int .i64 0,.string ⟨#[]⟩,.string ⟨#[]⟩,.int .i64 0,.int .i64 0,.slice none 0 0]).cells (b.subs.length * 6)));have HQ5:=lH (qalloc w4 (.cells (madeCells (Value.agg #[.int .i64 0,.string ⟨#[]⟩,.string ⟨#[]⟩,.int .i64 0,.int .i64 0,.slice none 0 0]).cells (b.subs.length * 6)) 66));have HZ5:Hid ((madeCells (Value.agg #[.int .i64 0,.string ⟨#[]⟩,.string ⟨#[]⟩,.int .i64 0,.int .i64 0,.slice none 0 0]).cells (b.subs.length * 6)).size = b.subs.length * 6):=size_madeCells _ _;have HR4:=HEl.out
    generalize (madeCells (Value.agg #[.int .i64 0,.string ⟨#[]⟩,.string ⟨#[]⟩,.int .i64 0,.int .i64 0,.slice none 0 0]).cells (b.subs.length * 6)) = cur0 at *;generalize World.alloc w4 _ = w5 at *;generalize hR:w4.heap.size = R at *;have HRE:Hid (E < R):=HR4;have HRw:Hid (R = w4.heap.size):=hR.symm;clear hR HR4;have hb5:=qtrans hb4 HQ5.out;have hw5:=qtrans hw4 HQ5.out
    have HE5:Hid (CBox w5 E 66 (xA b ba bc)):=HE4.out.below HQ5.out;obtain ⟨b0,b1,b2,b3,b4,b5,bl⟩:=cells6 (Gb.out.below hb4);have HQ35:Hid (Bw w3 w5):=qtrans HQ4.out HQ5.out;clear HE4 HQ4 HQ5 hb4 hw4 hb3 hw3;obtain ⟨e0,e1,e2,e3,e4,e5,el⟩:=cells6 HE5.out;obtain ⟨fe0,fe1,fe2,fe3,fe4,fe5⟩:=frozen6 HE5.out;have e5l:=el;go_upto_region 8 with (fail)
    have HE6:Hid (CBox (w5.setCell ⟨E,5,none⟩ (.slice (some ⟨R,0,none⟩) b.subs.length b.subs.length)) E 66 #[.int .i64 b.kind,.string b.name,.string b.more,.int .i64 b.num,.int .i64 b.den,.slice (some ⟨R,0,none⟩) b.subs.length b.subs.length]):=HE5.out.set 5 _;have HM6:Hid (Mod [E] w5 (w5.setCell ⟨E,5,none⟩ (.slice (some ⟨R,0,none⟩) b.subs.length b.subs.length))):=(Mod.refl [E] w5).setCell (p:=⟨E,5,none⟩) (by simp) _;generalize World.setCell _ ⟨E,5,none⟩ _ = w6 at *;clear hmk b0 b1 b2 b3 b4 b5 bl e0 e1 e2 e3 e4 e5 fe0 fe1 fe2 fe3 fe4 fe5 el e5l
    have HC6:=lH (HC5.out.mod HM6.out (by have:=HRE.out;simp;omega));have HBW:Hid (Bw W0 w6):=hb5.trans (HM6.out.upto hb5.size (by intro k hk;simp at hk;have:=HE3.out.2;omega));have HB36:Hid (Bw w3 w6):=HQ35.out.trans (HM6.out.upto HQ35.out.size (by intro k hk;simp at hk;have:=HE3.out.1;omega));have HN3:Hid (w.heap.size≤n3):=by show _≤_;omega
    have HB6:Hid (ExIn w6 (R :: E :: n3 :: X) b ba bc):=(((((HBI.out.more (k:=n3) (by have:=HN3.out;omega)).below HW3.out).more (k:=E) (by have:=HE3.out.1;omega)).more (k:=R) (by have:=HE3.out.1;have:=HRE.out;omega)).below HB36.out);have HL6:Hid (ExIn w6 (R :: E :: n3 :: X) l la lc):=(((((HLI.out.more (k:=n3) (by have:=HN3.out;omega)).below HW3.out).more (k:=E) (by have:=HE3.out.1;omega)).more (k:=R) (by have:=HE3.out.1;have:=HRE.out;omega)).below HB36.out)
    have HR6:Hid (ExIn w6 (R :: E :: n3 :: X) r ra rc):=(((((HRI.out.more (k:=n3) (by have:=HN3.out;omega)).below HW3.out).more (k:=E) (by have:=HE3.out.1;omega)).more (k:=R) (by have:=HE3.out.1;have:=HRE.out;omega)).below HB36.out);have HWR:Hid (W0.heap.size≤R):=by show _≤_;have:=HE3.out.2;have:=HRE.out;omega
    have HRX:Hid (R ∉ n3 :: X):=by intro h;rcases List.mem_cons.1 h with h | h;(have:=HEn.out;have:=HRE.out;omega);have:=HXX.out _ h;have:=HEw.out;have:=HRE.out;omega
    clear HQ35 HB36 HM6 HC5 HE5 hb5 hw5 HE3 HW3;have e5:=HE6.out.cell (i:=5) (v:=.slice (some ⟨R,0,none⟩) b.subs.length b.subs.length) rfl;have el:=HE6.out.lt;go_wp2;clear e5 el
    go_loopw [51] (fun iv wr => ∃ (i:Nat) (cur:Array Value),i≤b.subs.length∧iv = .int .i64 i∧Hid (cur.size = b.subs.length * 6)∧Hid (CBox wr R 66 cur)∧Hid (ReadsL wr (R :: E :: n3 :: X) (((mergeL b.subs l.subs r.subs).take i).flatMap exprT) (cur.toList.take (i * 6)))∧Hid (Mod [R] w6 wr)) (fun iv _ => b.subs.length - (intOf iv).toNat)
    case atStart => exact ⟨0,cur0,Nat.zero_le _,rfl,HZ5,HC6,by show ReadsL _ _ _ _;rw [Nat.zero_mul,List.take_zero,List.take_zero,List.flatMap_nil];exact ReadsL.nil _ _,Mod.refl _ _⟩
    case round =>
     obtain ⟨i,cur,hil,rfl,HZ,HC,HRD,HM⟩:=hrel;have hbr:Bw W0 wr:=HBW.out.trans (HM.out.upto HBW.out.size (by intro k hk;simp at hk;have:=HWR.out;omega));have hMX:Mod (R :: E :: n3 :: X) w6 wr:=HM.out.mono (by intro k hk;rw [List.mem_singleton.1 hk];exact List.mem_cons_self ..)
     by_cases hi:i < b.subs.length
     ·have hd:decide ((i:Int) < (b.subs.length:Int)) = true:=decide_eq_true (by omega)
      have hir:(i:Int) < (b.subs.length:Int):=by omega
      obtain ⟨u,hu⟩:∃ u,b.subs[i]? = some u:=⟨_,List.getElem?_eq_getElem hi⟩;obtain ⟨v,hv⟩:∃ v,l.subs[i]? = some v:=⟨_,List.getElem?_eq_getElem (by rw [← HL1.out];exact hi)⟩;obtain ⟨t,ht⟩:∃ t,r.subs[i]? = some t:=⟨_,List.getElem?_eq_getElem (by rw [← HL2.out];exact hi)⟩;have x5:=(Gb.out.below hbr).cell (i:=5) (v:=.slice ba b.subs.length bc) rfl;have y5:=(Gl.out.below hbr).cell (i:=5) (v:=.slice la l.subs.length lc) rfl;have z5:=(Gr.out.below hbr).cell (i:=5) (v:=.slice ra r.subs.length rc) rfl;rw [← HL1.out] at y5
      rw [← HL2.out] at z5;have e5:=(HE6.out.mod HM.out (by have:=HRE.out;simp;omega)).cell (i:=5) (v:=.slice (some ⟨R,0,none⟩) b.subs.length b.subs.length) rfl;have q1:=(Gb.out.below hbr).lt;have q2:=(Gl.out.below hbr).lt;have q3:=(Gr.out.below hbr).lt;have q4:=(HE6.out.mod HM.out (by have:=HRE.out;simp;omega)).lt;have q5:=HC.out.lt;have hBu:=(HB6.out.mod hMX).subs;have hBv:=(HL6.out.mod hMX).subs;have hBt:=(HR6.out.mod hMX).subs;obtain ⟨b1,o1,ua,uc,rfl,hb1,c0,c1,c2,c3,c4,c5,hu1,hu2,hur⟩:=subs_elem hBu hu
      obtain ⟨b2,o2,va,vc,rfl,hb2,d0,d1,d2,d3,d4,d5,hv1,hv2,hvr⟩:=subs_elem hBv hv;obtain ⟨b3,o3,ta,tc,rfl,hb3,g0,g1,g2,g3,g4,g5,ht1,ht2,htr⟩:=subs_elem hBt ht;have hum:=List.mem_of_getElem? hu;have hun:=nodesN_sub hum;have hvn:=nodesN_sub (List.mem_of_getElem? hv);have htn:=nodesN_sub (List.mem_of_getElem? ht)
      have HXr:Hid (∀ k,k∈R :: E :: n3 :: X→k < wr.heap.size):=by
       intro k hk
       rcases List.mem_cons.1 hk with rfl | hk
       ·exact q5
       ·rcases List.mem_cons.1 hk with rfl | hk
        ·exact q4
        ·rcases List.mem_cons.1 hk with rfl | hk
         ·have:=hbr.size;omega
         ·have:=HXX.out _ hk;omega
      have HCA:=lH (fun w' (h':Bw wr w') => HIH.out u hum v t ua va ta uc vc tc (R :: E :: n3 :: X) w' (fun k hk => Nat.lt_of_lt_of_le (HXr.out k hk) h'.size) ⟨hur.out.below h',hu1,hu2⟩ ⟨hvr.out.below h',hv1,hv2⟩ ⟨htr.out.below h',ht1,ht2⟩ (by omega) (by omega) (by omega));have HTK:=lH (mergeL_take_succ hu hv ht HL1.out HL2.out)
      have SW:Hid (∀ W:World,Bw wr W→(W.cell? ⟨E,5,none⟩ = some (.slice (some ⟨R,0,none⟩) b.subs.length b.subs.length)∧W.cell? ⟨w.heap.size,5,none⟩ = some (.slice (some ⟨b1,o1,none⟩) b.subs.length bc)∧W.cell? ⟨n1,5,none⟩ = some (.slice (some ⟨b2,o2,none⟩) b.subs.length lc)∧W.cell? ⟨n2,5,none⟩ = some (.slice (some ⟨b3,o3,none⟩) b.subs.length rc)∧E < W.heap.size∧w.heap.size < W.heap.size∧n1 < W.heap.size∧n2 < W.heap.size∧R < W.heap.size∧b1 < W.heap.size∧b2 < W.heap.size∧b3 < W.heap.size∧W.cell? ⟨b1,o1 + i * 6,none⟩ = some (.int .i64 u.kind)∧W.cell? ⟨b1,o1 + i * 6 + 1,none⟩ = some (.string u.name)∧W.cell? ⟨b1,o1 + i * 6 + 2,none⟩ = some (.string u.more)∧W.cell? ⟨b1,o1 + i * 6 + 3,none⟩ = some (.int .i64 u.num)∧W.cell? ⟨b1,o1 + i * 6 + 4,none⟩ = some (.int .i64 u.den)∧W.cell? ⟨b1,o1 + i * 6 + 5,none⟩ = some (.slice ua u.subs.length uc)∧W.cell? ⟨b2,o2 + i * 6,none⟩ = some (.int .i64 v.kind)∧W.cell? ⟨b2,o2 + i * 6 + 1,none⟩ = some (.string v.name)∧W.cell? ⟨b2,o2 + i * 6 + 2,none⟩ = some (.string v.more)∧W.cell? ⟨b2,o2 + i * 6 + 3,none⟩ = some (.int .i64 v.num)∧W.cell? ⟨b2,o2 + i * 6 + 4,none⟩ = some (.int .i64 v.den)∧W.cell? ⟨b2,o2 + i * 6 + 5,none⟩ = some (.slice va v.subs.length vc)∧W.cell? ⟨b3,o3 + i * 6,none⟩ = some (.int .i64 t.kind)∧W.cell? ⟨b3,o3 + i * 6 + 1,none⟩ = some (.string t.name)∧W.cell? ⟨b3,o3 + i * 6 + 2,none⟩ = some (.string t.more)∧W.cell? ⟨b3,o3 + i * 6 + 3,none⟩ = some (.int .i64 t.num)∧W.cell? ⟨b3,o3 + i * 6 + 4,none⟩ = some (.int .i64 t.den)∧W.cell? ⟨b3,o3 + i * 6 + 5,none⟩ = some (.slice ta t.subs.length tc))):=lH (fun W hW => ⟨(hW.cell (p:=⟨E,_,none⟩) q4).trans e5,(hW.cell (p:=⟨w.heap.size,_,none⟩) q1).trans x5,(hW.cell (p:=⟨n1,_,none⟩) q2).trans y5,(hW.cell (p:=⟨n2,_,none⟩) q3).trans z5,Nat.lt_of_lt_of_le q4 hW.size,Nat.lt_of_lt_of_le q1 hW.size,Nat.lt_of_lt_of_le q2 hW.size,Nat.lt_of_lt_of_le q3 hW.size,Nat.lt_of_lt_of_le q5 hW.size,Nat.lt_of_lt_of_le hb1 hW.size,Nat.lt_of_lt_of_le hb2 hW.size,Nat.lt_of_lt_of_le hb3 hW.size,(hW.cell (p:=⟨b1,_,none⟩) hb1).trans c0,(hW.cell (p:=⟨b1,_,none⟩) hb1).trans c1,(hW.cell (p:=⟨b1,_,none⟩) hb1).trans c2,(hW.cell (p:=⟨b1,_,none⟩) hb1).trans c3,(hW.cell (p:=⟨b1,_,none⟩) hb1).trans c4,(hW.cell (p:=⟨b1,_,none⟩) hb1).trans c5,(hW.cell (p:=⟨b2,_,none⟩) hb2).trans d0,(hW.cell (p:=⟨b2,_,none⟩) hb2).trans d1,(hW.cell (p:=⟨b2,_,none⟩) hb2).trans d2,(hW.cell (p:=⟨b2,_,none⟩) hb2).trans d3,(hW.cell (p:=⟨b2,_,none⟩) hb2).trans d4,(hW.cell (p:=⟨b2,_,none⟩) hb2).trans d5,(hW.cell (p:=⟨b3,_,none⟩) hb3).trans g0,(hW.cell (p:=⟨b3,_,none⟩) hb3).trans g1,(hW.cell (p:=⟨b3,_,none⟩) hb3).trans g2,(hW.cell (p:=⟨b3,_,none⟩) hb3).trans g3,(hW.cell (p:=⟨b3,_,none⟩) hb3).trans g4,(hW.cell (p:=⟨b3,_,none⟩) hb3).trans g5⟩)
      clear hBu hBv hBt hum hun hvn htn hur hvr htr hu hv ht hu1 hu2 hv1 hv2 ht1 ht2 x5 y5 z5 e5 hMX c0 c1 c2 c3 c4 c5 d0 d1 d2 d3 d4 d5 g0 g1 g2 g3 g4 g5;have hb0:Bw wr wr.drew:=(Mod.refl [] wr).drew.below;generalize mergeX u v t = y at *;go_upto_region 11 with (fail)
      refine wp_region_noPanic (region_planG (fun W:World => W.cell? ⟨E,5,none⟩ = some (.slice (some ⟨R,0,none⟩) b.subs.length b.subs.length)∧W.cell? ⟨w.heap.size,5,none⟩ = some (.slice (some ⟨b1,o1,none⟩) b.subs.length bc)∧W.cell? ⟨n1,5,none⟩ = some (.slice (some ⟨b2,o2,none⟩) b.subs.length lc)∧W.cell? ⟨n2,5,none⟩ = some (.slice (some ⟨b3,o3,none⟩) b.subs.length rc)∧E < W.heap.size∧w.heap.size < W.heap.size∧n1 < W.heap.size∧n2 < W.heap.size∧R < W.heap.size∧b1 < W.heap.size∧b2 < W.heap.size∧b3 < W.heap.size∧W.cell? ⟨b1,o1 + i * 6,none⟩ = some (.int .i64 u.kind)∧W.cell? ⟨b1,o1 + i * 6 + 1,none⟩ = some (.string u.name)∧W.cell? ⟨b1,o1 + i * 6 + 2,none⟩ = some (.string u.more)∧W.cell? ⟨b1,o1 + i * 6 + 3,none⟩ = some (.int .i64 u.num)∧W.cell? ⟨b1,o1 + i * 6 + 4,none⟩ = some (.int .i64 u.den)∧W.cell? ⟨b1,o1 + i * 6 + 5,none⟩ = some (.slice ua u.subs.length uc)∧W.cell? ⟨b2,o2 + i * 6,none⟩ = some (.int .i64 v.kind)∧W.cell? ⟨b2,o2 + i * 6 + 1,none⟩ = some (.string v.name)∧W.cell? ⟨b2,o2 + i * 6 + 2,none⟩ = some (.string v.more)∧W.cell? ⟨b2,o2 + i * 6 + 3,none⟩ = some (.int .i64 v.num)∧W.cell? ⟨b2,o2 + i * 6 + 4,none⟩ = some (.int .i64 v.den)∧W.cell? ⟨b2,o2 + i * 6 + 5,none⟩ = some (.slice va v.subs.length vc)∧W.cell? ⟨b3,o3 + i * 6,none⟩ = some (.int .i64 t.kind)∧W.cell? ⟨b3,o3 + i * 6 + 1,none⟩ = some (.string t.name)∧W.cell? ⟨b3,o3 + i * 6 + 2,none⟩ = some (.string t.more)∧W.cell? ⟨b3,o3 + i * 6 + 3,none⟩ = some (.int .i64 t.num)∧W.cell? ⟨b3,o3 + i * 6 + 4,none⟩ = some (.int .i64 t.den)∧W.cell? ⟨b3,o3 + i * 6 + 5,none⟩ = some (.slice ta t.subs.length tc)) 19 [(true,0),(true,1),(true,2),(true,3),(true,4),(true,5),(true,6),(true,7),(true,8),(true,9),(true,10),(true,11),(true,12),(true,13),(true,14),(true,15),(true,16),(true,17),(false,18)] mixedK (by kernel_rfl) (fun _ _ _ _ _ h => h) (SW.out _ hb0) ?_)
      iterate 18 (refine planG_take (v:=?_) rfl (by rfl) ?_ ?_;rotate_left;(focus (intro wq hSw;(try dsimp only at hSw);go_simp;(try rw [if_neg (by first | omega | (simp;omega))]);(try with_reducible rfl)));(try simp only [gA,gB,gC,Act.put,gD,gE,gF]))
      generalize wr.drew = v0 at *
      (refine planG_one rfl (by rfl) (fun K hK => ?_);go_simp)
      refine (HCA.out _ hb0).mono ?_;rintro e v1 ⟨ya,yc,rfl,hyx,hqv⟩
      (try go_simp)
      have hbv:=qtrans hb0 hqv;refine hK.out _ _ (SW.out _ hbv) ?_;clear hK K;(try simp only [gA,gB,gC,Act.put,gD,gE,gF]);refine planG_end ?_;have e5:=(HE6.out.mod (HM.out.trans (Mod.of hbv)) (by have:=HRE.out;simp;omega)).cell (i:=5) (v:=.slice (some ⟨R,0,none⟩) b.subs.length b.subs.length) rfl;have HCv:=HC.out.below hbv;have hsz:=HZ.out;have HRv:=(HRD.out.below hbv);have HMv:Mod [R] w6 v1:=HM.out.trans (Mod.of hbv);have mf0:=HCv.frozen (i * 6 + 0)
      have mc0:=HCv.cell (i:=i * 6 + 0) (v:=cur[i * 6 + 0]'(by omega)) (Array.getElem?_eq_getElem _);generalize cur[i * 6 + 0]'_ = xx0 at *;have mf1:=HCv.frozen (i * 6 + 1);have mc1:=HCv.cell (i:=i * 6 + 1) (v:=cur[i * 6 + 1]'(by omega)) (Array.getElem?_eq_getElem _);generalize cur[i * 6 + 1]'_ = xx1 at *;have mf2:=HCv.frozen (i * 6 + 2);have mc2:=HCv.cell (i:=i * 6 + 2) (v:=cur[i * 6 + 2]'(by omega)) (Array.getElem?_eq_getElem _);generalize cur[i * 6 + 2]'_ = xx2 at *;have mf3:=HCv.frozen (i * 6 + 3)
      have mc3:=HCv.cell (i:=i * 6 + 3) (v:=cur[i * 6 + 3]'(by omega)) (Array.getElem?_eq_getElem _);generalize cur[i * 6 + 3]'_ = xx3 at *;have mf4:=HCv.frozen (i * 6 + 4);have mc4:=HCv.cell (i:=i * 6 + 4) (v:=cur[i * 6 + 4]'(by omega)) (Array.getElem?_eq_getElem _);generalize cur[i * 6 + 4]'_ = xx4 at *;have mf5:=HCv.frozen (i * 6 + 5);have mc5:=HCv.cell (i:=i * 6 + 5) (v:=cur[i * 6 + 5]'(by omega)) (Array.getElem?_eq_getElem _);generalize cur[i * 6 + 5]'_ = xx5 at *;have ml:=HCv.lt;rw [Nat.add_zero] at mf0 mc0
      obtain ⟨cur2,hC2,hz2,ht2⟩:=row_six HCv hsz hi (.int .i64 y.kind) (.string y.name) (.string y.more) (.int .i64 y.num) (.int .i64 y.den) (.slice ya y.subs.length yc);have hM2:=mod_six v1 R (i * 6) (.int .i64 y.kind) (.string y.name) (.string y.more) (.int .i64 y.num) (.int .i64 y.den) (.slice ya y.subs.length yc);have HC2:=lH hC2;have HM2:=lH hM2;have HMW:=lH HMv;clear HCv hC2 hM2 HMv;go_wp2;refine NoPanic.normal ?_;generalize World.setCell _ ⟨R,i * 6 + 5,none⟩ _ = v2 at *;clear mf0 mc0 mf1 mc1 mf2 mc2 mf3 mc3 mf4 mc4 mf5 mc5 ml
      have HRN:Hid (ReadsL v2 (R :: E :: n3 :: X) (((mergeL b.subs l.subs r.subs).take (i + 1)).flatMap exprT) (cur2.toList.take ((i + 1) * 6))):=by
       show ReadsL _ _ _ _
       have hmm:Mod (R :: E :: n3 :: X) v1 v2:=HM2.out.mono (by intro k hk;rw [List.mem_singleton.1 hk];exact List.mem_cons_self ..);rw [HTK.out,List.flatMap_append,ht2];refine ReadsL.append ?_ (HRv.mod hmm);rw [List.flatMap_cons,List.flatMap_nil,List.append_nil];exact cells_expr (hyx.subs.mod hmm)
      have HMN:Hid (Mod [R] w6 v2):=HMW.out.trans HM2.out;have HZ2:=lH hz2;clear HRv hsz HMW HM2 hyx HTK SW HCA HXr ht2 hz2 hqv hb0 hbv HZ HC HRD HM;go_wp2;go_roundw
      case rel => exact ⟨i + 1,cur2,by omega,by go_num,HZ2,HC2,HRN,HMN⟩
      case measure => simp [intOf];omega
     ·have hd:decide ((i:Int) < (b.subs.length:Int)) = false:=decide_eq_false (by omega)
      obtain rfl:i = b.subs.length:=by omega
      have hlen:=mergeL_len HL1.out HL2.out
      have HF:Hid (Reads wr (n3 :: X) (subsT (mergeL b.subs l.subs r.subs)) (.slice (some ⟨R,0,none⟩) (mergeL b.subs l.subs r.subs).length b.subs.length)):=by
       show Reads _ _ _ _
       have h1:=HRD.out;rw [List.take_of_length_le (by rw [hlen];exact Nat.le_refl _),List.take_of_length_le (by rw [Array.length_toList,HZ.out];exact Nat.le_refl _)] at h1;refine Reads.ofRow (f:=exprT) (l:=mergeL b.subs l.subs r.subs) (xs:=cur.toList) ⟨by rw [hlen,Array.length_toList];exact HZ.out,some ⟨R,0,none⟩,b.subs.length,rfl,by omega,by unfold maxLen;omega,fun _ => ⟨R,0,rfl,HC.out.lt,fun j u hj => ?_⟩⟩ (fun _ k hk => by cases hk;exact HRX.out) (h1.fewer (fun k hk => List.mem_cons_of_mem _ (List.mem_cons_of_mem _ hk)));rw [Nat.zero_add]
       exact HC.out.cell (by rw [← Array.getElem?_toList];exact hj)
      have HLEN:=lH hlen;have HEr:=lH (HE6.out.mod HM.out (by have:=HRE.out;simp;omega));have hwr:=hA.trans (hbr.mono (by omega));clear hlen hi hMX HRD HZ HC;obtain ⟨e0,e1,e2,e3,e4,e5,el⟩:=cells6 HEr.out;obtain ⟨o0,o1,o2,o3,o4,o5,ol⟩:=cells6 (Go.out.below hbr);obtain ⟨fo0,fo1,fo2,fo3,fo4,fo5⟩:=frozen6 (Go.out.below hbr);go_wp2;clear o0 o1 o2 o3 o4 o5 fo0 fo1 fo2 fo3 fo4 fo5 ol e0 e1 e2 e3 e4 e5 el
      obtain ⟨HC9,HM9⟩:=CBox.six (Go.out.below hbr) (.int .i64 b.kind) (.string b.name) (.string b.more) (.int .i64 b.num) (.int .i64 b.den) (.slice (some ⟨R,0,none⟩) b.subs.length b.subs.length);generalize World.setCell _ ⟨n3,5,none⟩ _ = W9 at *;obtain ⟨r0,r1,r2,r3,r4,r5,-⟩:=cells6 HC9;refine bodyPost_ret (by simp [results,Tryz.results263,go_sem,r0,r1,r2,r3,r4,r5];try rfl) rfl ?_;have hd9:Bw w W9:=hwr.trans (HM9.upto hwr.size (by intro k hk;simp at hk;have:=HN3.out;omega))
      have hF9:Reads W9 X (subsT (mergeL b.subs l.subs r.subs)) (.slice (some ⟨R,0,none⟩) (mergeL b.subs l.subs r.subs).length b.subs.length):=(HF.out.mod (HM9.mono inC)).fewer inT;have hT:T = deepX b l r:=HT.out;clear HT;subst hT;refine ⟨some ⟨R,0,none⟩,b.subs.length,?_,⟨hF9,Nat.le_of_eq HLEN.out,by omega⟩,hd9⟩
      show Ending.returned (.agg #[.int .i64 b.kind,.string b.name,.string b.more,.int .i64 b.num,.int .i64 b.den,.slice (some ⟨R,0,none⟩) b.subs.length b.subs.length]) = Ending.returned (.agg #[.int .i64 b.kind,.string b.name,.string b.more,.int .i64 b.num,.int .i64 b.den,.slice (some ⟨R,0,none⟩) (mergeL b.subs l.subs r.subs).length b.subs.length])
      rw [HLEN.out]
end Go.Proofs.YtdpnfkjafhbndaaGreatDoor

