/- Maps whose keys are ints, in memory. No program in sight, but for the seat's Prog. The library's contracts of maps.Keys, slices.Sorted and slices.Sort over ints at this program, as the kit's shelf lays them. -/
import Derived.Test.YtdpnfkjafhbndaaGreatDoorRT5
import Derived.Lib.SlKeysI
import Derived.Shelf.SlIterI.Nil
import Derived.Shelf.SortM.Plain
import Derived.Shelf.SortM.SortNone
import Derived.Test.YtdpnfkjafhbndaaGreatDoorProg
namespace Go.Proofs.YtdpnfkjafhbndaaGreatDoor
open Go.RowKit Go.Maps
theorem intKeyed:Maps.Keyed Tryz.prog 3:=Maps.int_keyed Tryz.underlying3
theorem key_int {x:Int} (h:inI x):keyOf Tryz.prog 3 (.int .i64 x) = some (.int .i64 x):=Maps.keyOf_int_mk Tryz.underlying3 (by
 unfold inI at h;have h1:IntKind.i64.min = -9223372036854775808:=by decide
 have h2:IntKind.i64.max = 9223372036854775807:=by decide
 rw [Lit.wf,h1,h2,decide_eq_true h.1,decide_eq_true h.2]
 rfl)
def IsMapI (k:TypeId) (w:World) (b n:Nat) (f:Int→Option Value):Prop:=
  ∃ D:DataW Value,w.ownsMap Tryz.prog k heldE b n D∧Maps.IsMap D∧∀ s,(∀ z,D.atKey (.int .i64 s) (.held z) = .held ((f s).getD z))∧Maps.has D (.int .i64 s) = (f s).isSome
theorem IsMapI.made (k:TypeId) (w:World):IsMapI k (w.alloc (.map #[] 0)) w.heap.size 0 (fun _ => none):=
 ⟨.map [],World.ownsMap_made w _ k heldE,⟨[],rfl⟩,fun _ => ⟨fun _ => rfl,rfl⟩⟩
theorem IsMapI.lt {k:TypeId} {w:World} {b n:Nat} {f:Int→Option Value} (h:IsMapI k w b n f):b < w.heap.size:=by
 obtain ⟨D,h1,_⟩:=h;exact h1.lt
theorem IsMapI.block {k:TypeId} {w w':World} {b n:Nat} {f:Int→Option Value} (h:IsMapI k w b n f) (e:w'.heap[b]? = w.heap[b]?):IsMapI k w' b n f:=by
 obtain ⟨D,⟨es,c,h1,h2⟩,h3⟩:=h;exact ⟨D,⟨es,c,e.trans h1,h2⟩,h3⟩
theorem IsMapI.below {k:TypeId} {w w':World} {b n:Nat} {f:Int→Option Value} (h:IsMapI k w b n f) (m:Bw w w'):IsMapI k w' b n f:=h.block (m.block _ h.lt)
theorem IsMapI.mod {X:List Nat} {k:TypeId} {w w':World} {b n:Nat} {f:Int→Option Value} (h:IsMapI k w b n f) (m:Mod X w w') (hx:b ∉ X):IsMapI k w' b n f:=h.block (m.block _ h.lt hx)
set_option maxRecDepth 100000 in
theorem IsMapI.look {k t e:TypeId} {w:World} {b n:Nat} {f:Int→Option Value} (h:IsMapI k w b n f) (K:Keyed Tryz.prog k) (ht:Tryz.prog.underlying t = some (.map k e)) {z:Value} (hz:(zeroValue e).run Tryz.prog w = .ok z w)
  {s:Int} (hk:keyOf Tryz.prog k (.int .i64 s) = some (.int .i64 s)):(Instr.lookup t (.map (some b)) (.int .i64 s) false).run Tryz.prog w = .ok ((f s).getD z) w:=by
 obtain ⟨D,h1,_,h3⟩:=h;obtain ⟨v,ps,hr,hv⟩:=h1.lookup K ht hz (zd:=.held z) (zp:=[]) rfl hk;rw [(h3 _).1] at hv;unfold heldE at hv
 injection hv with hv
 injection hv with hv
 injection hv with hv
 rw [hr,hv]
theorem IsMapI.put {k t e:TypeId} {w:World} {b n:Nat} {f:Int→Option Value} (h:IsMapI k w b n f) (K:Keyed Tryz.prog k) (ht:Tryz.prog.underlying t = some (.map k e)) (hn:n < maxLen)
  {s:Int} (hk:keyOf Tryz.prog k (.int .i64 s) = some (.int .i64 s)) (v:Value) :
  ∃ w',(Instr.mapUpdate t (.map (some b)) (.int .i64 s) v).run Tryz.prog w = .ok () w'∧IsMapI k w' b (n + 1) (fun x => if x = s then some v else f x)∧w.grownBy w' (some b):=by
 obtain ⟨D,h1,h2,h3⟩:=h;obtain ⟨w',hr,ho,hg⟩:=h1.update K ht hn hk (val:=v) (d:=.held v) (ps:=[]) rfl;refine ⟨w',hr,⟨_,ho,?_,fun x => ?_⟩,hg⟩
 ·obtain ⟨es,rfl⟩:=h2;exact ⟨_,rfl⟩
 ·by_cases hx:x = s
  ·subst hx
   simp only [if_pos]
   exact ⟨fun z => Maps.atKey_put_same h2 (K.key hk) _ _,Maps.has_put_same h2 (K.key hk) _⟩
  ·simp only [if_neg hx]
   have hne:(Lit.int .i64 x)≠.int .i64 s:=fun e => hx (by injection e);exact ⟨fun z => by rw [Maps.atKey_put_other hne];exact (h3 x).1 z,by rw [Maps.has_put_other hne];exact (h3 x).2⟩
theorem IsMapI.keys {w:World} {b n:Nat} {f:Int→Option Value} (h:IsMapI 3 w b n f) {ids:List Int} (hp:ids.Pairwise (· < ·)) (hm:∀ x,x∈ids↔(f x).isSome = true) :
    ∃ D:DataW Value,w.ownsMap Tryz.prog 3 heldE b n D∧Maps.size D≤n∧∀ ss:List Int,ss.Perm (intKeys D)→ss.mergeSort (fun x y => decide (x≤y)) = ids:=by
  obtain ⟨D,hown,_,hD⟩:=h
  refine ⟨D,hown,hown.size_le,fun ss hss => ?_⟩
  obtain ⟨es,e1,hpw,_⟩:=hown.entries intKeyed
  obtain ⟨es',e2,hko⟩:=hown.keysOf
  obtain rfl:es = es':=by rw [e1] at e2;simpa using e2
  subst e1
  have hnd:ids.Nodup:=hp.imp fun {a b} h => by omega
  have hperm:ids.Perm (intKeys (.map es)):=perm_intKeys hpw (fun p hp' => by obtain ⟨v,hv⟩:=hko p hp';obtain ⟨x,_,hx,_⟩:=Maps.keyOf_i64 Tryz.underlying3 hv;exact ⟨x,hx⟩) hnd (fun x => by
    rw [(hD x).2];exact hm x)
  rw [mergeSort_of_perm_i (hss.trans hperm.symm)]
  refine List.mergeSort_of_pairwise (hp.imp fun {a b} h => ?_)
  simp;omega
end Go.Proofs.YtdpnfkjafhbndaaGreatDoor
namespace Go.Proofs
open Go.Shelf
def Tryz.keysI_ren:Go.Shelf.Ren:=⟨fun | 7 => 98 | 10 => 161 | n => n,fun | 23 => 125 | 26 => 3 | 3 => 126 | 28 => 130 | 0 => 0 | 27 => 129 | 33 => 180 | 4 => 4 | n => n,fun | n => n⟩
theorem Tryz.keysI:Go.Proofs.SlLaysZI.n7 Tryz.prog Tryz.keysI_ren:={
 mixed:=by kernel_rfl
 f7:=⟨Tryz.f98.name,by decide,Tryz.func98.trans (congrArg some (by kernel_rfl))⟩
 f10:=⟨Tryz.f161.name,by decide,Tryz.func161.trans (congrArg some (by kernel_rfl))⟩
 t0:=Tryz.underlying0
 a0:=Tryz.isAgg0
 z0:=Tryz.sizeOf0
 v0:=Tryz.zeroValue0
 t4:=Tryz.underlying4
 a4:=Tryz.isAgg4
 z4:=Tryz.sizeOf4
 v4:=Tryz.zeroValue4
 t23:=Tryz.underlying125
 a23:=Tryz.isAgg125
 z23:=Tryz.sizeOf125
 v23:=Tryz.zeroValue125
 t26:=Tryz.underlying3
 a26:=Tryz.isAgg3
 z26:=Tryz.sizeOf3
 v26:=Tryz.zeroValue3
 t27:=Tryz.underlying129
 a27:=Tryz.isAgg129
 z27:=Tryz.sizeOf129
 v27:=Tryz.zeroValue129
 t28:=Tryz.underlying130
 a28:=Tryz.isAgg130
 z28:=Tryz.sizeOf130
 v28:=Tryz.zeroValue130
 t33:=Tryz.underlying180
 a33:=Tryz.isAgg180
 z33:=Tryz.sizeOf180
 v33:=Tryz.zeroValue180 }
def Tryz.sortedI_ren:Go.Shelf.Ren:=⟨fun | 6 => 97 | 8 => 159 | 9 => 160 | 11 => 215 | 13 => 214 | 12 => 216 | 23 => 252 | 24 => 253 | 14 => 254 | 15 => 255 | 16 => 256 | 17 => 257 | 18 => 258 | 19 => 259 | 20 => 260 | 21 => 261 | 22 => 262 | 25 => 284 | 26 => 280 | 27 => 281 | 28 => 285 | 29 => 286 | 30 => 287 | 31 => 299 | n => n,fun | 26 => 3 | 28 => 130 | 24 => 86 | 0 => 0 | 3 => 3 | 37 => 184 | 48 => 253 | 50 => 255 | 4 => 4 | 40 => 247 | 39 => 246 | 45 => 103 | 5 => 5 | 9 => 9 | 51 => 275 | 55 => 279 | 57 => 290 | 58 => 291 | 33 => 180 | n => n,fun | n => n⟩
theorem Tryz.sortedI:Go.Proofs.SlLaysZI.n6 Tryz.prog Tryz.sortedI_ren:={
 mixed:=by kernel_rfl
 f6:=⟨Tryz.f97.name,by decide,Tryz.func97.trans (congrArg some (by kernel_rfl))⟩
 f8:=⟨Tryz.f159.name,by decide,Tryz.func159.trans (congrArg some (by kernel_rfl))⟩
 f11:=⟨Tryz.f215.name,by decide,Tryz.func215.trans (congrArg some (by kernel_rfl))⟩
 t0:=Tryz.underlying0
 a0:=Tryz.isAgg0
 z0:=Tryz.sizeOf0
 v0:=Tryz.zeroValue0
 t24:=Tryz.underlying86
 a24:=Tryz.isAgg86
 z24:=Tryz.sizeOf86
 v24:=Tryz.zeroValue86
 t26:=Tryz.underlying3
 a26:=Tryz.isAgg3
 z26:=Tryz.sizeOf3
 v26:=Tryz.zeroValue3
 t28:=Tryz.underlying130
 a28:=Tryz.isAgg130
 z28:=Tryz.sizeOf130
 v28:=Tryz.zeroValue130
 i26:=by kernel_rfl }
def Tryz.sortI_ren:Go.Shelf.Ren:=⟨fun | 5 => 160 | 8 => 214 | 7 => 216 | 19 => 252 | 20 => 253 | 10 => 254 | 11 => 255 | 12 => 256 | 13 => 257 | 14 => 258 | 15 => 259 | 16 => 260 | 17 => 261 | 18 => 262 | 30 => 284 | 31 => 280 | 32 => 281 | 33 => 285 | 34 => 286 | 35 => 287 | 40 => 299 | n => n,fun | 23 => 86 | 25 => 3 | 3 => 3 | 32 => 184 | 22 => 86 | 0 => 0 | 44 => 253 | 46 => 255 | 4 => 4 | 36 => 247 | 35 => 246 | 41 => 103 | 5 => 5 | 9 => 9 | 53 => 275 | 57 => 279 | 63 => 290 | 64 => 291 | n => n,fun | n => n⟩
theorem Tryz.sortI:Go.Proofs.SlLaysM.n5 Tryz.prog Tryz.sortI_ren:={
 mixed:=by kernel_rfl
 f5:=⟨Tryz.f160.name,by decide,Tryz.func160.trans (congrArg some (by kernel_rfl))⟩
 f7:=⟨Tryz.f216.name,by decide,Tryz.func216.trans (congrArg some (by kernel_rfl))⟩
 f8:=Tryz.func214.trans (congrArg some (by kernel_rfl))
 f10:=⟨Tryz.f254.name,by decide,Tryz.func254.trans (congrArg some (by kernel_rfl))⟩
 f11:=⟨Tryz.f255.name,by decide,Tryz.func255.trans (congrArg some (by kernel_rfl))⟩
 f12:=⟨Tryz.f256.name,by decide,Tryz.func256.trans (congrArg some (by kernel_rfl))⟩
 f13:=⟨Tryz.f257.name,by decide,Tryz.func257.trans (congrArg some (by kernel_rfl))⟩
 f14:=⟨Tryz.f258.name,by decide,Tryz.func258.trans (congrArg some (by kernel_rfl))⟩
 f15:=⟨Tryz.f259.name,by decide,Tryz.func259.trans (congrArg some (by kernel_rfl))⟩
 f16:=⟨Tryz.f260.name,by decide,Tryz.func260.trans (congrArg some (by kernel_rfl))⟩
 f17:=⟨Tryz.f261.name,by decide,Tryz.func261.trans (congrArg some (by kernel_rfl))⟩
 f18:=⟨Tryz.f262.name,by decide,Tryz.func262.trans (congrArg some (by kernel_rfl))⟩
 f19:=Tryz.func252.trans (congrArg some (by kernel_rfl))
 f20:=Tryz.func253.trans (congrArg some (by kernel_rfl))
 f30:=⟨Tryz.f284.name,by decide,Tryz.func284.trans (congrArg some (by kernel_rfl))⟩
 f31:=Tryz.func280.trans (congrArg some (by kernel_rfl))
 f32:=Tryz.func281.trans (congrArg some (by kernel_rfl))
 f33:=⟨Tryz.f285.name,by decide,Tryz.func285.trans (congrArg some (by kernel_rfl))⟩
 f34:=⟨Tryz.f286.name,by decide,Tryz.func286.trans (congrArg some (by kernel_rfl))⟩
 f35:=⟨Tryz.f287.name,by decide,Tryz.func287.trans (congrArg some (by kernel_rfl))⟩
 f40:=⟨Tryz.f299.name,by decide,Tryz.func299.trans (congrArg some (by kernel_rfl))⟩
 t0:=Tryz.underlying0
 a0:=Tryz.isAgg0
 z0:=Tryz.sizeOf0
 v0:=Tryz.zeroValue0
 t3:=Tryz.underlying3
 a3:=Tryz.isAgg3
 z3:=Tryz.sizeOf3
 v3:=Tryz.zeroValue3
 t4:=Tryz.underlying4
 a4:=Tryz.isAgg4
 z4:=Tryz.sizeOf4
 v4:=Tryz.zeroValue4
 t5:=Tryz.underlying5
 a5:=Tryz.isAgg5
 z5:=Tryz.sizeOf5
 v5:=Tryz.zeroValue5
 t9:=Tryz.underlying9
 a9:=Tryz.isAgg9
 z9:=Tryz.sizeOf9
 v9:=Tryz.zeroValue9
 t22:=Tryz.underlying86
 a22:=Tryz.isAgg86
 z22:=Tryz.sizeOf86
 v22:=Tryz.zeroValue86
 t23:=Tryz.underlying86
 a23:=Tryz.isAgg86
 z23:=Tryz.sizeOf86
 v23:=Tryz.zeroValue86
 t25:=Tryz.underlying3
 a25:=Tryz.isAgg3
 z25:=Tryz.sizeOf3
 v25:=Tryz.zeroValue3
 t32:=Tryz.underlying184
 a32:=Tryz.isAgg184
 z32:=Tryz.sizeOf184
 v32:=Tryz.zeroValue184
 t35:=Tryz.underlying246
 a35:=Tryz.isAgg246
 z35:=Tryz.sizeOf246
 v35:=Tryz.zeroValue246
 t36:=Tryz.underlying247
 a36:=Tryz.isAgg247
 z36:=Tryz.sizeOf247
 v36:=Tryz.zeroValue247
 t41:=Tryz.underlying103
 a41:=Tryz.isAgg103
 z41:=Tryz.sizeOf103
 v41:=Tryz.zeroValue103
 t44:=Tryz.underlying253
 a44:=Tryz.isAgg253
 z44:=Tryz.sizeOf253
 v44:=Tryz.zeroValue253
 t46:=Tryz.underlying255
 a46:=Tryz.isAgg255
 z46:=Tryz.sizeOf255
 v46:=Tryz.zeroValue255
 t53:=Tryz.underlying275
 a53:=Tryz.isAgg275
 z53:=Tryz.sizeOf275
 v53:=Tryz.zeroValue275
 t57:=Tryz.underlying279
 a57:=Tryz.isAgg279
 z57:=Tryz.sizeOf279
 v57:=Tryz.zeroValue279
 t63:=Tryz.underlying290
 a63:=Tryz.isAgg290
 z63:=Tryz.sizeOf290
 v63:=Tryz.zeroValue290
 t64:=Tryz.underlying291
 a64:=Tryz.isAgg291
 z64:=Tryz.sizeOf291
 v64:=Tryz.zeroValue291 }
section
open Go.RowKit Go.Maps Go.Sort
theorem Tryz.sortsI (m:Nat):AnyZI.SortsIn Tryz.prog Tryz.sortedI_ren Fence.wide m:=
 ⟨fun blk off cap ss W hH hblk hsz => callsIn_wide.2 (AnyM.slices_Sort_int Tryz.sortI blk off cap ss W hH hblk hsz),
  fun p cap W => callsIn_wide.2 (AnyM.slices_Sort_int_none Tryz.sortI p cap W)⟩
theorem Tryz.maps_KeysI (mb:Option Nat) (W:World):Calls Tryz.prog 98 #[.map mb] W fun e w' => e = .returned (.func (.func 161) #[] #[.pointer (some ⟨W.heap.size,0,none⟩)])∧w' = W.alloc (.cells #[.map mb] 125):=
 callsIn_wide.1 (AnyZI.keys_in Tryz.keysI Fence.wide 5 trivial rfl mb W)
set_option maxHeartbeats 1000000 in
theorem Tryz.slices_Sorted_keysI {H:Type} (b nn:Nat) (D0:DataW H) (R:Value→Option (DataW H × List MemPlace)) (w:World) (hown:w.ownsMap Tryz.prog 3 R b nn D0) (hmax:Maps.size D0≤maxLen) (hbytes:Maps.size D0 * 8≤140737488355328) :
  Calls Tryz.prog 97 #[.func (.func 161) #[] #[.pointer (some ⟨w.heap.size,0,none⟩)]] (w.alloc (.cells #[.map (some b)] 125)) fun e w' => ∃ (v:Value) (ss:List Int),e = .returned v∧ss.Perm (intKeys D0) ∧
   w'.ownsRow (w.alloc (.cells #[.map (some b)] 125)).heap.size 3 1 v ss.length ((ss.mergeSort (fun x y => decide (x≤y))).map encZ)∧(v = .slice none 0 0↔ss = [])∧Below (w.alloc (.cells #[.map (some b)] 125)).heap.size (w.alloc (.cells #[.map (some b)] 125)) w':=by
 have hbl:=hown.lt
 have hseq:SeqGives Fence.wide 2 Tryz.prog 161 #[.pointer (some ⟨w.heap.size,0,none⟩)] encZ (fun ss => ss.Perm (intKeys D0)) (Maps.size D0) (w.alloc (.cells #[.map (some b)] 125)):=
  AnyZI.keys_gives (ρ:=Tryz.keysI_ren) { Tryz.keysI with } Fence.wide _ trivial rfl (by omega) w.heap.size b nn D0 _ (by simp) (by simp) (by
   obtain ⟨es,clock,hb,Ft,hs,hD⟩:=hown
   exact ⟨es,clock,(Below.heap_alloc _ _ b hbl).trans hb,Ft,hs,hD⟩)
 refine (callsIn_wide (n:=5)).1 ?_;exact AnyZI.sorted_in Tryz.sortedI Fence.wide 5 trivial trivial trivial trivial rfl (by omega) (Tryz.sortsI _) (enters_of Tryz.func160 (by kernel_rfl) rfl) 161 #[.pointer (some ⟨w.heap.size,0,none⟩)] trivial (enters_of Tryz.func161 (by kernel_rfl) rfl) _ _ hmax hbytes _ hseq
end
end Go.Proofs

