/-
  What all walks over this seat begin with: its pieces, its facts, its kind of order.
-/
import Derived.Test.YthaomecbklmmdaaPieces
import Derived.Test.YthaomecbklmmdaaFacts
namespace Go.Lw
open Go.Proofs
theorem mixed : Try.prog.follows .mixedOrders = true := by kernel_rfl
abbrev nilSl : Value := .slice none 0 0
end Go.Lw
