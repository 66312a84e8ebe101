/-
  slices.Sort at []int as this program bears it, for the library's contracts (printed by sllay.sh and a small program, numbers by name).
-/
import Derived.Shelf.SlLaysM
import Derived.Test.YthafkinbocdjlaaProg
namespace Go.Proofs
open Go.Shelf
def Try.sortI_ren : Go.Shelf.Ren := ⟨fun | 5 => 43 | 8 => 58 | 7 => 57 | 19 => 72 | 20 => 73 | 10 => 64 | 11 => 65 | 12 => 66 | 13 => 67 | 14 => 68 | 15 => 69 | 16 => 60 | 17 => 70 | 18 => 71 | 30 => 76 | 31 => 77 | 32 => 78 | 33 => 79 | 34 => 80 | 35 => 74 | 40 => 82 | n => n, fun | 23 => 22 | 25 => 3 | 3 => 3 | 32 => 68 | 22 => 22 | 0 => 0 | 44 => 80 | 46 => 82 | 4 => 4 | 36 => 74 | 35 => 73 | 41 => 61 | 5 => 5 | 9 => 9 | 53 => 83 | 57 => 87 | 63 => 89 | 64 => 90 | n => n, fun | n => n⟩
theorem Try.sortI : SlLaysM.n5 Try.prog Try.sortI_ren where
  mixed := by kernel_rfl
  f5 := ⟨Try.f43.name, by kernel_rfl, Try.func43.trans (congrArg some (by kernel_rfl))⟩
  f7 := ⟨Try.f57.name, by kernel_rfl, Try.func57.trans (congrArg some (by kernel_rfl))⟩
  f8 := Try.func58.trans (congrArg some (by kernel_rfl))
  f10 := ⟨Try.f64.name, by kernel_rfl, Try.func64.trans (congrArg some (by kernel_rfl))⟩
  f11 := ⟨Try.f65.name, by kernel_rfl, Try.func65.trans (congrArg some (by kernel_rfl))⟩
  f12 := ⟨Try.f66.name, by kernel_rfl, Try.func66.trans (congrArg some (by kernel_rfl))⟩
  f13 := ⟨Try.f67.name, by kernel_rfl, Try.func67.trans (congrArg some (by kernel_rfl))⟩
  f14 := ⟨Try.f68.name, by kernel_rfl, Try.func68.trans (congrArg some (by kernel_rfl))⟩
  f15 := ⟨Try.f69.name, by kernel_rfl, Try.func69.trans (congrArg some (by kernel_rfl))⟩
  f16 := ⟨Try.f60.name, by kernel_rfl, Try.func60.trans (congrArg some (by kernel_rfl))⟩
  f17 := ⟨Try.f70.name, by kernel_rfl, Try.func70.trans (congrArg some (by kernel_rfl))⟩
  f18 := ⟨Try.f71.name, by kernel_rfl, Try.func71.trans (congrArg some (by kernel_rfl))⟩
  f19 := Try.func72.trans (congrArg some (by kernel_rfl))
  f20 := Try.func73.trans (congrArg some (by kernel_rfl))
  f30 := ⟨Try.f76.name, by kernel_rfl, Try.func76.trans (congrArg some (by kernel_rfl))⟩
  f31 := Try.func77.trans (congrArg some (by kernel_rfl))
  f32 := Try.func78.trans (congrArg some (by kernel_rfl))
  f33 := ⟨Try.f79.name, by kernel_rfl, Try.func79.trans (congrArg some (by kernel_rfl))⟩
  f34 := ⟨Try.f80.name, by kernel_rfl, Try.func80.trans (congrArg some (by kernel_rfl))⟩
  f35 := ⟨Try.f74.name, by kernel_rfl, Try.func74.trans (congrArg some (by kernel_rfl))⟩
  f40 := ⟨Try.f82.name, by kernel_rfl, Try.func82.trans (congrArg some (by kernel_rfl))⟩
  t0 := Try.underlying0
  a0 := Try.isAgg0
  z0 := Try.sizeOf0
  v0 := Try.zeroValue0
  t3 := Try.underlying3
  a3 := Try.isAgg3
  z3 := Try.sizeOf3
  v3 := Try.zeroValue3
  t4 := Try.underlying4
  a4 := Try.isAgg4
  z4 := Try.sizeOf4
  v4 := Try.zeroValue4
  t5 := Try.underlying5
  a5 := Try.isAgg5
  z5 := Try.sizeOf5
  v5 := Try.zeroValue5
  t9 := Try.underlying9
  a9 := Try.isAgg9
  z9 := Try.sizeOf9
  v9 := Try.zeroValue9
  t22 := Try.underlying22
  a22 := Try.isAgg22
  z22 := Try.sizeOf22
  v22 := Try.zeroValue22
  t23 := Try.underlying22
  a23 := Try.isAgg22
  z23 := Try.sizeOf22
  v23 := Try.zeroValue22
  t25 := Try.underlying3
  a25 := Try.isAgg3
  z25 := Try.sizeOf3
  v25 := Try.zeroValue3
  t32 := Try.underlying68
  a32 := Try.isAgg68
  z32 := Try.sizeOf68
  v32 := Try.zeroValue68
  t35 := Try.underlying73
  a35 := Try.isAgg73
  z35 := Try.sizeOf73
  v35 := Try.zeroValue73
  t36 := Try.underlying74
  a36 := Try.isAgg74
  z36 := Try.sizeOf74
  v36 := Try.zeroValue74
  t41 := Try.underlying61
  a41 := Try.isAgg61
  z41 := Try.sizeOf61
  v41 := Try.zeroValue61
  t44 := Try.underlying80
  a44 := Try.isAgg80
  z44 := Try.sizeOf80
  v44 := Try.zeroValue80
  t46 := Try.underlying82
  a46 := Try.isAgg82
  z46 := Try.sizeOf82
  v46 := Try.zeroValue82
  t53 := Try.underlying83
  a53 := Try.isAgg83
  z53 := Try.sizeOf83
  v53 := Try.zeroValue83
  t57 := Try.underlying87
  a57 := Try.isAgg87
  z57 := Try.sizeOf87
  v57 := Try.zeroValue87
  t63 := Try.underlying89
  a63 := Try.isAgg89
  z63 := Try.sizeOf89
  v63 := Try.zeroValue89
  t64 := Try.underlying90
  a64 := Try.isAgg90
  z64 := Try.sizeOf90
  v64 := Try.zeroValue90
end Go.Proofs
