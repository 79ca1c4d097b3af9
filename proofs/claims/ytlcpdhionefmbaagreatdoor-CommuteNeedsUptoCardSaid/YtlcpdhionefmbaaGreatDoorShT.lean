/- The library's contract of slices.Sort over strings at this program, as the kit's shelf lays it. -/
import Derived.Shelf.SortM.Plain
import Derived.Shelf.SortM.SortNone
import Derived.Maps.RangeWalk
import Derived.Sort.KeysCollected
import Derived.Sort.OwnSorted
import Derived.Test.YtlcpdhionefmbaaGreatDoorT3
namespace Go.Proofs
open Go.Shelf
def Tryz.sortA_ren : Go.Shelf.Ren := ⟨fun | 6 => 89 | 8 => 111 | 9 => 110 | 19 => 132 | 20 => 133 | 21 => 123 | 22 => 124 | 23 => 125 | 24 => 126 | 25 => 127 | 26 => 128 | 27 => 129 | 28 => 130 | 29 => 131 | 36 => 141 | 31 => 142 | 32 => 143 | 37 => 144 | 38 => 145 | 39 => 146 | 41 => 152 | n => n, fun | 27 => 45 | 29 => 9 | 3 => 3 | 32 => 129 | 26 => 45 | 0 => 0 | 44 => 144 | 46 => 146 | 4 => 4 | 36 => 137 | 35 => 136 | 41 => 141 | 5 => 5 | 9 => 9 | 53 => 152 | 57 => 156 | 63 => 165 | 64 => 166 | n => n, fun | n => n⟩
theorem Tryz.sortA : Go.Proofs.SlLaysM.n6 Tryz.prog Tryz.sortA_ren := {
  mixed := by kernel_rfl
  f6 := ⟨Tryz.f89.name, by decide, Tryz.func89.trans (congrArg some (by kernel_rfl))⟩
  f8 := Tryz.func111.trans (congrArg some (by kernel_rfl))
  f9 := ⟨Tryz.f110.name, by decide, Tryz.func110.trans (congrArg some (by kernel_rfl))⟩
  f19 := Tryz.func132.trans (congrArg some (by kernel_rfl))
  f20 := Tryz.func133.trans (congrArg some (by kernel_rfl))
  f21 := ⟨Tryz.f123.name, by decide, Tryz.func123.trans (congrArg some (by kernel_rfl))⟩
  f22 := ⟨Tryz.f124.name, by decide, Tryz.func124.trans (congrArg some (by kernel_rfl))⟩
  f23 := ⟨Tryz.f125.name, by decide, Tryz.func125.trans (congrArg some (by kernel_rfl))⟩
  f24 := ⟨Tryz.f126.name, by decide, Tryz.func126.trans (congrArg some (by kernel_rfl))⟩
  f25 := ⟨Tryz.f127.name, by decide, Tryz.func127.trans (congrArg some (by kernel_rfl))⟩
  f26 := ⟨Tryz.f128.name, by decide, Tryz.func128.trans (congrArg some (by kernel_rfl))⟩
  f27 := ⟨Tryz.f129.name, by decide, Tryz.func129.trans (congrArg some (by kernel_rfl))⟩
  f28 := ⟨Tryz.f130.name, by decide, Tryz.func130.trans (congrArg some (by kernel_rfl))⟩
  f29 := ⟨Tryz.f131.name, by decide, Tryz.func131.trans (congrArg some (by kernel_rfl))⟩
  f31 := Tryz.func142.trans (congrArg some (by kernel_rfl))
  f32 := Tryz.func143.trans (congrArg some (by kernel_rfl))
  f36 := ⟨Tryz.f141.name, by decide, Tryz.func141.trans (congrArg some (by kernel_rfl))⟩
  f37 := ⟨Tryz.f144.name, by decide, Tryz.func144.trans (congrArg some (by kernel_rfl))⟩
  f38 := ⟨Tryz.f145.name, by decide, Tryz.func145.trans (congrArg some (by kernel_rfl))⟩
  f39 := ⟨Tryz.f146.name, by decide, Tryz.func146.trans (congrArg some (by kernel_rfl))⟩
  f41 := ⟨Tryz.f152.name, by decide, Tryz.func152.trans (congrArg some (by kernel_rfl))⟩
  t0 := Tryz.underlying0
  a0 := Tryz.isAgg0
  z0 := Tryz.sizeOf0
  v0 := Tryz.zeroValue0
  t3 := Tryz.underlying3
  a3 := Tryz.isAgg3
  z3 := Tryz.sizeOf3
  v3 := Tryz.zeroValue3
  t4 := Tryz.underlying4
  a4 := Tryz.isAgg4
  z4 := Tryz.sizeOf4
  v4 := Tryz.zeroValue4
  t5 := Tryz.underlying5
  a5 := Tryz.isAgg5
  z5 := Tryz.sizeOf5
  v5 := Tryz.zeroValue5
  t9 := Tryz.underlying9
  a9 := Tryz.isAgg9
  z9 := Tryz.sizeOf9
  v9 := Tryz.zeroValue9
  t26 := Tryz.underlying45
  a26 := Tryz.isAgg45
  z26 := Tryz.sizeOf45
  v26 := Tryz.zeroValue45
  t27 := Tryz.underlying45
  a27 := Tryz.isAgg45
  z27 := Tryz.sizeOf45
  v27 := Tryz.zeroValue45
  t29 := Tryz.underlying9
  a29 := Tryz.isAgg9
  z29 := Tryz.sizeOf9
  v29 := Tryz.zeroValue9
  t32 := Tryz.underlying129
  a32 := Tryz.isAgg129
  z32 := Tryz.sizeOf129
  v32 := Tryz.zeroValue129
  t35 := Tryz.underlying136
  a35 := Tryz.isAgg136
  z35 := Tryz.sizeOf136
  v35 := Tryz.zeroValue136
  t36 := Tryz.underlying137
  a36 := Tryz.isAgg137
  z36 := Tryz.sizeOf137
  v36 := Tryz.zeroValue137
  t41 := Tryz.underlying141
  a41 := Tryz.isAgg141
  z41 := Tryz.sizeOf141
  v41 := Tryz.zeroValue141
  t44 := Tryz.underlying144
  a44 := Tryz.isAgg144
  z44 := Tryz.sizeOf144
  v44 := Tryz.zeroValue144
  t46 := Tryz.underlying146
  a46 := Tryz.isAgg146
  z46 := Tryz.sizeOf146
  v46 := Tryz.zeroValue146
  t53 := Tryz.underlying152
  a53 := Tryz.isAgg152
  z53 := Tryz.sizeOf152
  v53 := Tryz.zeroValue152
  t57 := Tryz.underlying156
  a57 := Tryz.isAgg156
  z57 := Tryz.sizeOf156
  v57 := Tryz.zeroValue156
  t63 := Tryz.underlying165
  a63 := Tryz.isAgg165
  z63 := Tryz.sizeOf165
  v63 := Tryz.zeroValue165
  t64 := Tryz.underlying166
  a64 := Tryz.isAgg166
  z64 := Tryz.sizeOf166
  v64 := Tryz.zeroValue166 }
section
open Go.RowKit Go.Maps Go.Sort
theorem Tryz.sort_Strings (blk off cap : Nat) (ss : List (List UInt8)) (w : World) (hH : Holds encStr w blk off ss.toArray) (hblk : blk < w.heap.size) (hsz : ss.length < 4611686018427387904) :
    Calls Tryz.prog 89 #[.slice (some ⟨blk, off, none⟩) ss.length cap] w fun e w' => e = .returned (.tuple #[]) ∧ ∃ n os, w' = grow (putRow encStr (Sort.ahead w n) blk off (ss.mergeSort fun x y => decide (x ≤ y)).toArray) os :=
  AnyM.slices_Sort_string Tryz.sortA blk off cap ss w hH hblk hsz
end
end Go.Proofs
