/- Maps whose keys are ints, in memory. -/
import Derived.Test.YtfkjfdbjhlmjcaaGreatDoorXT5
import Derived.Lib.SlKeysI
set_option maxRecDepth 100000
namespace Go.Proofs.YtfkjfdbjhlmjcaaGreatDoor
open Go.RowKit Go.Maps
theorem zDx:Maps.Keyed Tryz.prog 3:=Maps.int_keyed Tryz.underlying3
theorem zFk {x:Int} (h:inI x):keyOf Tryz.prog 3 (.int .i64 x)=some (.int .i64 x):=Maps.keyOf_int_mk Tryz.underlying3 (by
 unfold inI at h;have h1:IntKind.i64.min=-9223372036854775808:=by decide
 have h2:IntKind.i64.max=9223372036854775807:=by decide
 rw [Lit.wf,h1,h2,decide_eq_true h.1,decide_eq_true h.2]
 rfl)
def IsMapI (k:TypeId) (w:World) (b n:Nat) (f:Int→Option Value):Prop:=
  ∃D:DataW Value,w.ownsMap Tryz.prog k heldE b n D∧Maps.IsMap D∧∀s,(∀z,D.atKey (.int .i64 s) (.held z)=.held ((f s).getD z))∧Maps.has D (.int .i64 s)=(f s).isSome
theorem IsMapI.made (k:TypeId) (w:World):IsMapI k (w.alloc (.map #[] 0)) w.heap.size 0 (fun _=>none):=
 ⟨.map [],World.ownsMap_made w _ k heldE,⟨[],rfl⟩,fun _=>⟨fun _=>rfl,rfl⟩⟩
theorem IsMapI.lt {k:TypeId} {w:World} {b n:Nat} {f:Int→Option Value} (h:IsMapI k w b n f):b<w.heap.size:=by
 obtain ⟨D,h1,_⟩:=h;exact h1.lt
theorem IsMapI.block {k:TypeId} {w w':World} {b n:Nat} {f:Int→Option Value} (h:IsMapI k w b n f) (e:w'.heap[b]?=w.heap[b]?):IsMapI k w' b n f:=by
 obtain ⟨D,⟨es,c,h1,h2⟩,h3⟩:=h;exact ⟨D,⟨es,c,e.trans h1,h2⟩,h3⟩
theorem IsMapI.below {k:TypeId} {w w':World} {b n:Nat} {f:Int→Option Value} (h:IsMapI k w b n f) (m:Bw w w'):IsMapI k w' b n f:=h.block (m.block _ h.lt)
theorem IsMapI.mod {X:List Nat} {k:TypeId} {w w':World} {b n:Nat} {f:Int→Option Value} (h:IsMapI k w b n f) (m:Mod X w w') (hx:b∉X):IsMapI k w' b n f:=h.block (m.block _ h.lt hx)
theorem IsMapI.look {k t e:TypeId} {w:World} {b n:Nat} {f:Int→Option Value} (h:IsMapI k w b n f) (K:Keyed Tryz.prog k) (ht:Tryz.prog.underlying t=some (.map k e)) {z:Value} (hz:(zeroValue e).run Tryz.prog w=.ok z w)
  {s:Int} (hk:keyOf Tryz.prog k (.int .i64 s)=some (.int .i64 s)):(Instr.lookup t (.map (some b)) (.int .i64 s) false).run Tryz.prog w=.ok ((f s).getD z) w:=by
 obtain ⟨D,h1,_,h3⟩:=h;obtain ⟨v,ps,hr,hv⟩:=h1.lookup K ht hz (zd:=.held z) (zp:=[]) rfl hk;rw [(h3 _).1] at hv;unfold heldE at hv
 injection hv with hv
 injection hv with hv
 injection hv with hv
 rw [hr,hv]
theorem IsMapI.put {k t e:TypeId} {w:World} {b n:Nat} {f:Int→Option Value} (h:IsMapI k w b n f) (K:Keyed Tryz.prog k) (ht:Tryz.prog.underlying t=some (.map k e)) (hn:n<maxLen)
  {s:Int} (hk:keyOf Tryz.prog k (.int .i64 s)=some (.int .i64 s)) (v:Value) :
  ∃w',(Instr.mapUpdate t (.map (some b)) (.int .i64 s) v).run Tryz.prog w=.ok () w'∧IsMapI k w' b (n+1) (fun x=>if x=s then some v else f x)∧w.grownBy w' (some b):=by
 obtain ⟨D,h1,h2,h3⟩:=h;obtain ⟨w',hr,ho,hg⟩:=h1.update K ht hn hk (val:=v) (d:=.held v) (ps:=[]) rfl;refine ⟨w',hr,⟨_,ho,?_,fun x=>?_⟩,hg⟩
 ·obtain ⟨es,rfl⟩:=h2;exact ⟨_,rfl⟩
 ·by_cases hx:x=s
  ·subst hx
   simp only [if_pos]
   exact ⟨fun z=>Maps.atKey_put_same h2 (K.key hk) _ _,Maps.has_put_same h2 (K.key hk) _⟩
  ·simp only [if_neg hx]
   have hne:(Lit.int .i64 x)≠.int .i64 s:=fun e=>hx (by injection e);exact ⟨fun z=>by rw [Maps.atKey_put_other hne];exact (h3 x).1 z,by rw [Maps.has_put_other hne];exact (h3 x).2⟩
end Go.Proofs.YtfkjfdbjhlmjcaaGreatDoor
