/-
  slices.Compact at []int as this program bears it, for the library's contract.
-/
import Derived.Shelf.SlLaysN
import Derived.Test.YthafkinbocdjlaaProg
namespace Go.Proofs
open Go.Shelf
def Try.compactI_ren : Go.Shelf.Ren := ⟨fun | 43 => 44 | n => n, fun | 22 => 22 | 23 => 3 | 3 => 3 | 4 => 4 | 0 => 0 | n => n, fun | n => n⟩
theorem Try.compactI : SlLaysN.n43 Try.prog Try.compactI_ren where
  mixed := by kernel_rfl
  f43 := ⟨Try.f44.name, by kernel_rfl, Try.func44.trans (congrArg some (by kernel_rfl))⟩
  t0 := Try.underlying0
  a0 := Try.isAgg0
  z0 := Try.sizeOf0
  v0 := Try.zeroValue0
  t3 := Try.underlying3
  a3 := Try.isAgg3
  z3 := Try.sizeOf3
  v3 := Try.zeroValue3
  t4 := Try.underlying4
  a4 := Try.isAgg4
  z4 := Try.sizeOf4
  v4 := Try.zeroValue4
  t22 := Try.underlying22
  a22 := Try.isAgg22
  z22 := Try.sizeOf22
  v22 := Try.zeroValue22
  t23 := Try.underlying3
  a23 := Try.isAgg3
  z23 := Try.sizeOf3
  v23 := Try.zeroValue3
  i23 := by kernel_rfl
end Go.Proofs
