/- slices.Sorted(maps.Keys(m)): what the kit's lay-iter.mjs and lay-plain.mjs wrote for this seat. -/
import Derived.Shelf.SlIter.Nil
import Derived.Shelf.SortM.Plain
import Derived.Shelf.SortM.SortNone
import Derived.Ground.GgzProg
import Derived.Ground.SlgmProg
import Derived.Test.YtomidniaekeafaaProg
namespace Go.Proofs
open Go.Shelf
def Try.keys26_ren : Go.Shelf.Ren := ⟨fun | 7 => 26 | 10 => 38 | n => n, fun | 23 => 53 | 26 => 9 | 3 => 41 | 28 => 59 | 0 => 0 | 27 => 58 | 33 => 75 | 4 => 4 | n => n, fun | n => n⟩
theorem Try.keys26 : Go.Proofs.SlLaysZ.n7 Try.prog Try.keys26_ren := {
  mixed := by kernel_rfl
  f7 := ⟨Try.f26.name, by decide, Try.func26.trans (congrArg some (by kernel_rfl))⟩
  f10 := ⟨Try.f38.name, by decide, Try.func38.trans (congrArg some (by kernel_rfl))⟩
  t0 := Try.underlying0
  a0 := Try.isAgg0
  z0 := Try.sizeOf0
  v0 := Try.zeroValue0
  t4 := Try.underlying4
  a4 := Try.isAgg4
  z4 := Try.sizeOf4
  v4 := Try.zeroValue4
  t23 := Try.underlying53
  a23 := Try.isAgg53
  z23 := Try.sizeOf53
  v23 := Try.zeroValue53
  t26 := Try.underlying9
  a26 := Try.isAgg9
  z26 := Try.sizeOf9
  v26 := Try.zeroValue9
  t27 := Try.underlying58
  a27 := Try.isAgg58
  z27 := Try.sizeOf58
  v27 := Try.zeroValue58
  t28 := Try.underlying59
  a28 := Try.isAgg59
  z28 := Try.sizeOf59
  v28 := Try.zeroValue59
  t33 := Try.underlying75
  a33 := Try.isAgg75
  z33 := Try.sizeOf75
  v33 := Try.zeroValue75 }
def Try.sorted25_ren : Go.Shelf.Ren := ⟨fun | 6 => 25 | 8 => 36 | 9 => 37 | 11 => 42 | 13 => 44 | 12 => 43 | 23 => 54 | 24 => 55 | 14 => 45 | 15 => 46 | 16 => 47 | 17 => 48 | 18 => 49 | 19 => 50 | 20 => 51 | 21 => 52 | 22 => 53 | 25 => 56 | 26 => 57 | 27 => 58 | 28 => 59 | 29 => 60 | 30 => 61 | 31 => 62 | n => n, fun | 26 => 9 | 28 => 59 | 24 => 56 | 0 => 0 | 3 => 3 | 37 => 81 | 48 => 92 | 50 => 94 | 4 => 4 | 40 => 84 | 39 => 83 | 45 => 89 | 5 => 5 | 9 => 9 | 51 => 95 | 55 => 99 | 57 => 101 | 58 => 102 | 33 => 75 | n => n, fun | n => n⟩
theorem Try.sorted25 : Go.Proofs.SlLaysZ.n6 Try.prog Try.sorted25_ren := {
  mixed := by kernel_rfl
  f6 := ⟨Try.f25.name, by decide, Try.func25.trans (congrArg some (by kernel_rfl))⟩
  f8 := ⟨Try.f36.name, by decide, Try.func36.trans (congrArg some (by kernel_rfl))⟩
  f11 := ⟨Try.f42.name, by decide, Try.func42.trans (congrArg some (by kernel_rfl))⟩
  t0 := Try.underlying0
  a0 := Try.isAgg0
  z0 := Try.sizeOf0
  v0 := Try.zeroValue0
  t24 := Try.underlying56
  a24 := Try.isAgg56
  z24 := Try.sizeOf56
  v24 := Try.zeroValue56
  t26 := Try.underlying9
  a26 := Try.isAgg9
  z26 := Try.sizeOf9
  v26 := Try.zeroValue9
  t28 := Try.underlying59
  a28 := Try.isAgg59
  z28 := Try.sizeOf59
  v28 := Try.zeroValue59
  i26 := by kernel_rfl }
def Try.sort37_ren : Go.Shelf.Ren := ⟨fun | 6 => 37 | 8 => 44 | 9 => 43 | 19 => 54 | 20 => 55 | 21 => 45 | 22 => 46 | 23 => 47 | 24 => 48 | 25 => 49 | 26 => 50 | 27 => 51 | 28 => 52 | 29 => 53 | 36 => 56 | 31 => 57 | 32 => 58 | 37 => 59 | 38 => 60 | 39 => 61 | 41 => 62 | n => n, fun | 27 => 56 | 29 => 9 | 3 => 3 | 32 => 81 | 26 => 56 | 0 => 0 | 44 => 92 | 46 => 94 | 4 => 4 | 36 => 84 | 35 => 83 | 41 => 89 | 5 => 5 | 9 => 9 | 53 => 95 | 57 => 99 | 63 => 101 | 64 => 102 | n => n, fun | n => n⟩
theorem Try.sort37 : Go.Proofs.SlLaysM.n6 Try.prog Try.sort37_ren := {
  mixed := by kernel_rfl
  f6 := ⟨Try.f37.name, by decide, Try.func37.trans (congrArg some (by kernel_rfl))⟩
  f8 := Try.func44.trans (congrArg some (by kernel_rfl))
  f9 := ⟨Try.f43.name, by decide, Try.func43.trans (congrArg some (by kernel_rfl))⟩
  f19 := Try.func54.trans (congrArg some (by kernel_rfl))
  f20 := Try.func55.trans (congrArg some (by kernel_rfl))
  f21 := ⟨Try.f45.name, by decide, Try.func45.trans (congrArg some (by kernel_rfl))⟩
  f22 := ⟨Try.f46.name, by decide, Try.func46.trans (congrArg some (by kernel_rfl))⟩
  f23 := ⟨Try.f47.name, by decide, Try.func47.trans (congrArg some (by kernel_rfl))⟩
  f24 := ⟨Try.f48.name, by decide, Try.func48.trans (congrArg some (by kernel_rfl))⟩
  f25 := ⟨Try.f49.name, by decide, Try.func49.trans (congrArg some (by kernel_rfl))⟩
  f26 := ⟨Try.f50.name, by decide, Try.func50.trans (congrArg some (by kernel_rfl))⟩
  f27 := ⟨Try.f51.name, by decide, Try.func51.trans (congrArg some (by kernel_rfl))⟩
  f28 := ⟨Try.f52.name, by decide, Try.func52.trans (congrArg some (by kernel_rfl))⟩
  f29 := ⟨Try.f53.name, by decide, Try.func53.trans (congrArg some (by kernel_rfl))⟩
  f31 := Try.func57.trans (congrArg some (by kernel_rfl))
  f32 := Try.func58.trans (congrArg some (by kernel_rfl))
  f36 := ⟨Try.f56.name, by decide, Try.func56.trans (congrArg some (by kernel_rfl))⟩
  f37 := ⟨Try.f59.name, by decide, Try.func59.trans (congrArg some (by kernel_rfl))⟩
  f38 := ⟨Try.f60.name, by decide, Try.func60.trans (congrArg some (by kernel_rfl))⟩
  f39 := ⟨Try.f61.name, by decide, Try.func61.trans (congrArg some (by kernel_rfl))⟩
  f41 := ⟨Try.f62.name, by decide, Try.func62.trans (congrArg some (by kernel_rfl))⟩
  t0 := Try.underlying0
  a0 := Try.isAgg0
  z0 := Try.sizeOf0
  v0 := Try.zeroValue0
  t3 := Try.underlying3
  a3 := Try.isAgg3
  z3 := Try.sizeOf3
  v3 := Try.zeroValue3
  t4 := Try.underlying4
  a4 := Try.isAgg4
  z4 := Try.sizeOf4
  v4 := Try.zeroValue4
  t5 := Try.underlying5
  a5 := Try.isAgg5
  z5 := Try.sizeOf5
  v5 := Try.zeroValue5
  t9 := Try.underlying9
  a9 := Try.isAgg9
  z9 := Try.sizeOf9
  v9 := Try.zeroValue9
  t26 := Try.underlying56
  a26 := Try.isAgg56
  z26 := Try.sizeOf56
  v26 := Try.zeroValue56
  t27 := Try.underlying56
  a27 := Try.isAgg56
  z27 := Try.sizeOf56
  v27 := Try.zeroValue56
  t29 := Try.underlying9
  a29 := Try.isAgg9
  z29 := Try.sizeOf9
  v29 := Try.zeroValue9
  t32 := Try.underlying81
  a32 := Try.isAgg81
  z32 := Try.sizeOf81
  v32 := Try.zeroValue81
  t35 := Try.underlying83
  a35 := Try.isAgg83
  z35 := Try.sizeOf83
  v35 := Try.zeroValue83
  t36 := Try.underlying84
  a36 := Try.isAgg84
  z36 := Try.sizeOf84
  v36 := Try.zeroValue84
  t41 := Try.underlying89
  a41 := Try.isAgg89
  z41 := Try.sizeOf89
  v41 := Try.zeroValue89
  t44 := Try.underlying92
  a44 := Try.isAgg92
  z44 := Try.sizeOf92
  v44 := Try.zeroValue92
  t46 := Try.underlying94
  a46 := Try.isAgg94
  z46 := Try.sizeOf94
  v46 := Try.zeroValue94
  t53 := Try.underlying95
  a53 := Try.isAgg95
  z53 := Try.sizeOf95
  v53 := Try.zeroValue95
  t57 := Try.underlying99
  a57 := Try.isAgg99
  z57 := Try.sizeOf99
  v57 := Try.zeroValue99
  t63 := Try.underlying101
  a63 := Try.isAgg101
  z63 := Try.sizeOf101
  v63 := Try.zeroValue101
  t64 := Try.underlying102
  a64 := Try.isAgg102
  z64 := Try.sizeOf102
  v64 := Try.zeroValue102 }
open Go.RowKit Go.Maps Go.Sort Go.Shelf
/-- slices.Sort's two contracts at this dump, at the fence that asks nothing. -/
theorem Try.sorts25 (m : Nat) : AnyZ.SortsIn Try.prog Try.sorted25_ren Fence.wide m :=
  ⟨fun blk off cap ss W hH hblk hsz => callsIn_wide.2 (AnyM.slices_Sort_string Try.sort37 blk off cap ss W hH hblk hsz),
   fun p cap W => callsIn_wide.2 (AnyM.slices_Sort_string_none Try.sort37 p cap W)⟩

end Go.Proofs
