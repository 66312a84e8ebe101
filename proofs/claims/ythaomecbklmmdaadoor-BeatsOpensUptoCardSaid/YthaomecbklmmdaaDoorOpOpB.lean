/-
  The rows' readings of arguments, opened: bytes.
-/
import Derived.Test.YthaomecbklmmdaaDoorOpOpW
namespace Go.Lw
open Go.Proofs

section
variable {H : Type} {enc : TypeId × Value → H} {W : World}
theorem op_bytes : Op enc W 22 (RSl (RInt .u8) 1) (fun xs => xs.length) :=
  (opens_slice Tryd.underlying22 (by kernel_rfl : _ = 1) (by decide) (opens_int Tryd.underlying5) blk_slice blk_len).imp id (fun _ _ _ h => h) (fun _ => Nat.le_max_left _ _)
end
end Go.Lw
