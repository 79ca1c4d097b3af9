/- The library's contract of slices.Sort over strings at this program, as the kit's shelf lays it. -/
import Derived.Shelf.SortM.Plain
import Derived.Shelf.SortM.SortNone
import Derived.Maps.RangeWalk
import Derived.Sort.KeysCollected
import Derived.Sort.OwnSorted
import Derived.Test.YtlgnedahnaojlaaGreatDoorFSyH
namespace Go.Proofs
open Go.Shelf
def Tryz.sortA_ren : Go.Shelf.Ren := ⟨fun | 6 => 66 | 8 => 110 | 9 => 109 | 19 => 155 | 20 => 156 | 21 => 146 | 22 => 147 | 23 => 148 | 24 => 149 | 25 => 150 | 26 => 151 | 27 => 152 | 28 => 153 | 29 => 154 | 36 => 185 | 31 => 186 | 32 => 187 | 37 => 188 | 38 => 189 | 39 => 190 | 41 => 208 | n => n, fun | 27 => 22 | 29 => 9 | 3 => 3 | 32 => 133 | 26 => 22 | 0 => 0 | 44 => 171 | 46 => 173 | 4 => 4 | 36 => 164 | 35 => 163 | 41 => 138 | 5 => 5 | 9 => 9 | 53 => 193 | 57 => 197 | 63 => 211 | 64 => 212 | n => n, fun | n => n⟩
theorem Tryz.sortA : Go.Proofs.SlLaysM.n6 Tryz.prog Tryz.sortA_ren := {
 mixed := by kernel_rfl
 f6 := ⟨Tryz.f66.name, by decide, Tryz.func66.trans (congrArg some (by kernel_rfl))⟩
 f8 := Tryz.func110.trans (congrArg some (by kernel_rfl))
 f9 := ⟨Tryz.f109.name, by decide, Tryz.func109.trans (congrArg some (by kernel_rfl))⟩
 f19 := Tryz.func155.trans (congrArg some (by kernel_rfl))
 f20 := Tryz.func156.trans (congrArg some (by kernel_rfl))
 f21 := ⟨Tryz.f146.name, by decide, Tryz.func146.trans (congrArg some (by kernel_rfl))⟩
 f22 := ⟨Tryz.f147.name, by decide, Tryz.func147.trans (congrArg some (by kernel_rfl))⟩
 f23 := ⟨Tryz.f148.name, by decide, Tryz.func148.trans (congrArg some (by kernel_rfl))⟩
 f24 := ⟨Tryz.f149.name, by decide, Tryz.func149.trans (congrArg some (by kernel_rfl))⟩
 f25 := ⟨Tryz.f150.name, by decide, Tryz.func150.trans (congrArg some (by kernel_rfl))⟩
 f26 := ⟨Tryz.f151.name, by decide, Tryz.func151.trans (congrArg some (by kernel_rfl))⟩
 f27 := ⟨Tryz.f152.name, by decide, Tryz.func152.trans (congrArg some (by kernel_rfl))⟩
 f28 := ⟨Tryz.f153.name, by decide, Tryz.func153.trans (congrArg some (by kernel_rfl))⟩
 f29 := ⟨Tryz.f154.name, by decide, Tryz.func154.trans (congrArg some (by kernel_rfl))⟩
 f31 := Tryz.func186.trans (congrArg some (by kernel_rfl))
 f32 := Tryz.func187.trans (congrArg some (by kernel_rfl))
 f36 := ⟨Tryz.f185.name, by decide, Tryz.func185.trans (congrArg some (by kernel_rfl))⟩
 f37 := ⟨Tryz.f188.name, by decide, Tryz.func188.trans (congrArg some (by kernel_rfl))⟩
 f38 := ⟨Tryz.f189.name, by decide, Tryz.func189.trans (congrArg some (by kernel_rfl))⟩
 f39 := ⟨Tryz.f190.name, by decide, Tryz.func190.trans (congrArg some (by kernel_rfl))⟩
 f41 := ⟨Tryz.f208.name, by decide, Tryz.func208.trans (congrArg some (by kernel_rfl))⟩
 t0 := Tryz.underlying0
 a0 := Tryz.isAgg0
 z0 := Tryz.sizeOf0
 v0 := Tryz.zeroValue0
 t3 := Tryz.underlying3
 a3 := Tryz.isAgg3
 z3 := Tryz.sizeOf3
 v3 := Tryz.zeroValue3
 t4 := Tryz.underlying4
 a4 := Tryz.isAgg4
 z4 := Tryz.sizeOf4
 v4 := Tryz.zeroValue4
 t5 := Tryz.underlying5
 a5 := Tryz.isAgg5
 z5 := Tryz.sizeOf5
 v5 := Tryz.zeroValue5
 t9 := Tryz.underlying9
 a9 := Tryz.isAgg9
 z9 := Tryz.sizeOf9
 v9 := Tryz.zeroValue9
 t26 := Tryz.underlying22
 a26 := Tryz.isAgg22
 z26 := Tryz.sizeOf22
 v26 := Tryz.zeroValue22
 t27 := Tryz.underlying22
 a27 := Tryz.isAgg22
 z27 := Tryz.sizeOf22
 v27 := Tryz.zeroValue22
 t29 := Tryz.underlying9
 a29 := Tryz.isAgg9
 z29 := Tryz.sizeOf9
 v29 := Tryz.zeroValue9
 t32 := Tryz.underlying133
 a32 := Tryz.isAgg133
 z32 := Tryz.sizeOf133
 v32 := Tryz.zeroValue133
 t35 := Tryz.underlying163
 a35 := Tryz.isAgg163
 z35 := Tryz.sizeOf163
 v35 := Tryz.zeroValue163
 t36 := Tryz.underlying164
 a36 := Tryz.isAgg164
 z36 := Tryz.sizeOf164
 v36 := Tryz.zeroValue164
 t41 := Tryz.underlying138
 a41 := Tryz.isAgg138
 z41 := Tryz.sizeOf138
 v41 := Tryz.zeroValue138
 t44 := Tryz.underlying171
 a44 := Tryz.isAgg171
 z44 := Tryz.sizeOf171
 v44 := Tryz.zeroValue171
 t46 := Tryz.underlying173
 a46 := Tryz.isAgg173
 z46 := Tryz.sizeOf173
 v46 := Tryz.zeroValue173
 t53 := Tryz.underlying193
 a53 := Tryz.isAgg193
 z53 := Tryz.sizeOf193
 v53 := Tryz.zeroValue193
 t57 := Tryz.underlying197
 a57 := Tryz.isAgg197
 z57 := Tryz.sizeOf197
 v57 := Tryz.zeroValue197
 t63 := Tryz.underlying211
 a63 := Tryz.isAgg211
 z63 := Tryz.sizeOf211
 v63 := Tryz.zeroValue211
 t64 := Tryz.underlying212
 a64 := Tryz.isAgg212
 z64 := Tryz.sizeOf212
 v64 := Tryz.zeroValue212 }
section
open Go.RowKit Go.Maps Go.Sort
theorem Tryz.sort_Strings (blk off cap : Nat) (ss : List (List UInt8)) (w : World) (hH : Holds encStr w blk off ss.toArray) (hblk : blk < w.heap.size) (hsz : ss.length < 4611686018427387904) :
  Calls Tryz.prog 66 #[.slice (some ⟨blk, off, none⟩) ss.length cap] w fun e w' => e = .returned (.tuple #[]) ∧ ∃ n os, w' = grow (putRow encStr (Sort.ahead w n) blk off (ss.mergeSort fun x y => decide (x ≤ y)).toArray) os :=
 AnyM.slices_Sort_string Tryz.sortA blk off cap ss w hH hblk hsz
end
end Go.Proofs

