/- The library's contract of slices.Sort over strings at this program, as the kit's shelf lays it. -/
import Derived.Shelf.SortM.Plain
import Derived.Shelf.SortM.SortNone
import Derived.Maps.RangeWalk
import Derived.Sort.KeysCollected
import Derived.Sort.OwnSorted
import Derived.Test.YtdpnfkjafhbndaaGreatDoorESyH
namespace Go.Proofs
open Go.Shelf
def Tryz.sortA_ren:Go.Shelf.Ren:=⟨fun | 6 => 155 | 8 => 214 | 9 => 213 | 19 => 252 | 20 => 253 | 21 => 244 | 22 => 245 | 23 => 246 | 24 => 247 | 25 => 248 | 26 => 249 | 27 => 165 | 28 => 250 | 29 => 251 | 36 => 279 | 31 => 280 | 32 => 281 | 37 => 282 | 38 => 283 | 39 => 223 | 41 => 298 | n => n,fun | 27 => 50 | 29 => 9 | 3 => 3 | 32 => 184 | 26 => 50 | 0 => 0 | 44 => 253 | 46 => 255 | 4 => 4 | 36 => 247 | 35 => 246 | 41 => 103 | 5 => 5 | 9 => 9 | 53 => 275 | 57 => 279 | 63 => 290 | 64 => 291 | n => n,fun | n => n⟩
theorem Tryz.sortA:Go.Proofs.SlLaysM.n6 Tryz.prog Tryz.sortA_ren:={
 mixed:=by kernel_rfl
 f6:=⟨Tryz.f155.name,by decide,Tryz.func155.trans (congrArg some (by kernel_rfl))⟩
 f8:=Tryz.func214.trans (congrArg some (by kernel_rfl))
 f9:=⟨Tryz.f213.name,by decide,Tryz.func213.trans (congrArg some (by kernel_rfl))⟩
 f19:=Tryz.func252.trans (congrArg some (by kernel_rfl))
 f20:=Tryz.func253.trans (congrArg some (by kernel_rfl))
 f21:=⟨Tryz.f244.name,by decide,Tryz.func244.trans (congrArg some (by kernel_rfl))⟩
 f22:=⟨Tryz.f245.name,by decide,Tryz.func245.trans (congrArg some (by kernel_rfl))⟩
 f23:=⟨Tryz.f246.name,by decide,Tryz.func246.trans (congrArg some (by kernel_rfl))⟩
 f24:=⟨Tryz.f247.name,by decide,Tryz.func247.trans (congrArg some (by kernel_rfl))⟩
 f25:=⟨Tryz.f248.name,by decide,Tryz.func248.trans (congrArg some (by kernel_rfl))⟩
 f26:=⟨Tryz.f249.name,by decide,Tryz.func249.trans (congrArg some (by kernel_rfl))⟩
 f27:=⟨Tryz.f165.name,by decide,Tryz.func165.trans (congrArg some (by kernel_rfl))⟩
 f28:=⟨Tryz.f250.name,by decide,Tryz.func250.trans (congrArg some (by kernel_rfl))⟩
 f29:=⟨Tryz.f251.name,by decide,Tryz.func251.trans (congrArg some (by kernel_rfl))⟩
 f31:=Tryz.func280.trans (congrArg some (by kernel_rfl))
 f32:=Tryz.func281.trans (congrArg some (by kernel_rfl))
 f36:=⟨Tryz.f279.name,by decide,Tryz.func279.trans (congrArg some (by kernel_rfl))⟩
 f37:=⟨Tryz.f282.name,by decide,Tryz.func282.trans (congrArg some (by kernel_rfl))⟩
 f38:=⟨Tryz.f283.name,by decide,Tryz.func283.trans (congrArg some (by kernel_rfl))⟩
 f39:=⟨Tryz.f223.name,by decide,Tryz.func223.trans (congrArg some (by kernel_rfl))⟩
 f41:=⟨Tryz.f298.name,by decide,Tryz.func298.trans (congrArg some (by kernel_rfl))⟩
 t0:=Tryz.underlying0
 a0:=Tryz.isAgg0
 z0:=Tryz.sizeOf0
 v0:=Tryz.zeroValue0
 t3:=Tryz.underlying3
 a3:=Tryz.isAgg3
 z3:=Tryz.sizeOf3
 v3:=Tryz.zeroValue3
 t4:=Tryz.underlying4
 a4:=Tryz.isAgg4
 z4:=Tryz.sizeOf4
 v4:=Tryz.zeroValue4
 t5:=Tryz.underlying5
 a5:=Tryz.isAgg5
 z5:=Tryz.sizeOf5
 v5:=Tryz.zeroValue5
 t9:=Tryz.underlying9
 a9:=Tryz.isAgg9
 z9:=Tryz.sizeOf9
 v9:=Tryz.zeroValue9
 t26:=Tryz.underlying50
 a26:=Tryz.isAgg50
 z26:=Tryz.sizeOf50
 v26:=Tryz.zeroValue50
 t27:=Tryz.underlying50
 a27:=Tryz.isAgg50
 z27:=Tryz.sizeOf50
 v27:=Tryz.zeroValue50
 t29:=Tryz.underlying9
 a29:=Tryz.isAgg9
 z29:=Tryz.sizeOf9
 v29:=Tryz.zeroValue9
 t32:=Tryz.underlying184
 a32:=Tryz.isAgg184
 z32:=Tryz.sizeOf184
 v32:=Tryz.zeroValue184
 t35:=Tryz.underlying246
 a35:=Tryz.isAgg246
 z35:=Tryz.sizeOf246
 v35:=Tryz.zeroValue246
 t36:=Tryz.underlying247
 a36:=Tryz.isAgg247
 z36:=Tryz.sizeOf247
 v36:=Tryz.zeroValue247
 t41:=Tryz.underlying103
 a41:=Tryz.isAgg103
 z41:=Tryz.sizeOf103
 v41:=Tryz.zeroValue103
 t44:=Tryz.underlying253
 a44:=Tryz.isAgg253
 z44:=Tryz.sizeOf253
 v44:=Tryz.zeroValue253
 t46:=Tryz.underlying255
 a46:=Tryz.isAgg255
 z46:=Tryz.sizeOf255
 v46:=Tryz.zeroValue255
 t53:=Tryz.underlying275
 a53:=Tryz.isAgg275
 z53:=Tryz.sizeOf275
 v53:=Tryz.zeroValue275
 t57:=Tryz.underlying279
 a57:=Tryz.isAgg279
 z57:=Tryz.sizeOf279
 v57:=Tryz.zeroValue279
 t63:=Tryz.underlying290
 a63:=Tryz.isAgg290
 z63:=Tryz.sizeOf290
 v63:=Tryz.zeroValue290
 t64:=Tryz.underlying291
 a64:=Tryz.isAgg291
 z64:=Tryz.sizeOf291
 v64:=Tryz.zeroValue291 }
section
open Go.RowKit Go.Maps Go.Sort
theorem Tryz.sort_Strings (blk off cap:Nat) (ss:List (List UInt8)) (w:World) (hH:Holds encStr w blk off ss.toArray) (hblk:blk < w.heap.size) (hsz:ss.length < 4611686018427387904) :
  Calls Tryz.prog 155 #[.slice (some ⟨blk,off,none⟩) ss.length cap] w fun e w' => e = .returned (.tuple #[])∧∃ n os,w' = grow (putRow encStr (Sort.ahead w n) blk off (ss.mergeSort fun x y => decide (x≤y)).toArray) os:=
 AnyM.slices_Sort_string Tryz.sortA blk off cap ss w hH hblk hsz
end
end Go.Proofs

