/-
  What the rows' condition tells of the variable that the program's text lays: the handle of 'error'; a world that meets it.
-/
import Derived.Test.YthaomecbklmmdaaDoorOpBxOpen
import Derived.Test.YthaomecbklmmdaaDoorOpCodecAt
import Derived.Test.YthaomecbklmmdaaDoorRows
import Derived.LaidLaws
import Derived.LaidHandle
import Derived.WalkKit
import Derived.Deep.DeepHandedRow
namespace Go.Proofs.YthaomecbklmmdaaDoor
open Go.ChangeShapes Go.WideShapes Go.ChangeAt Go.RowKit
namespace Two
theorem own : ownKnob Tryd.prog.godebug = none := by kernel_rfl
theorem laidOut : laidOutB Tryd.prog = true := by kernel_rfl
theorem et : Tryd.prog.globalNamed "errors.errorType" = some 0 := by kernel_rfl
theorem rtN : (Tryd.prog.cutTypes.find? (·.1 == "internal/reflectlite.rtype")).map (·.2) = some 132 := by kernel_rfl
theorem oneRow : ((List.range Tryd.prog.types.size).filter fun t => Tryd.prog.rowNamed t [101, 114, 114, 111, 114]) = [90] := by kernel_rfl
theorem handle : typeHandle Tryd.prog 90 = .pointer (some ⟨1, 90, none⟩) := by kernel_rfl

def laid : List (String × DataW Unit) := [("errors.errorType", Rows.laid_errors_errorType)]

theorem et_of_laid {W : World} (h : laidMetH Tryd.prog laid W) : Lw.Et (Lw.all W) := by
  have h' : laidMet Tryd.prog [] W ∧ handlesMet Tryd.prog [("errors.errorType", Rows.laid_errors_errorType)] W := h
  obtain ⟨name, u, ty, e1, e2, e3, e4, e5⟩ := h'.2 _ (List.mem_singleton.2 rfl)
  have en : name = [101, 114, 114, 111, 114] := (Option.some.inj e1).symm
  subst en
  obtain rfl := Option.some.inj (rtN.symm.trans e2)
  have hm : ty ∈ (List.range Tryd.prog.types.size).filter fun t => Tryd.prog.rowNamed t [101, 114, 114, 111, 114] := List.mem_filter.2 ⟨List.mem_range.2 e3, e4⟩
  rw [oneRow] at hm
  obtain rfl := List.mem_singleton.1 hm
  rw [handle] at e5
  have hc : W.cell? ⟨0, 0, none⟩ = some (Lw.rt 90) := by simpa using World.var?_cell et e5 0
  obtain ⟨cs, el, fr, hb, _, hv⟩ := Lw.cell_block hc
  exact ⟨cs, el, fr, hb, rfl, fun j u hj => by
    cases j with
    | zero => simp at hj; subst hj; simpa using hv
    | succ j => simp at hj⟩
def put (vs : Array Value) : Obj → Obj
  | .cells _ t frozen => .cells vs t frozen
  | o => o
noncomputable def world (os : Os) : World :=
  { World.holding Tryd.prog os ⟨#[], #[], []⟩ with heap := (World.holding Tryd.prog os ⟨#[], #[], []⟩).heap.modify 0 (put #[Lw.rt 90]) }
theorem met (os : Os) (args : Array Value) : laidMetH Tryd.prog laid ((world os).forCall (fun _ _ => 0) ⟨#[], args, []⟩).memory :=
  laidMetH_of_parts (laidMet_of_run' 8 (by kernel_rfl) (by kernel_rfl)) (by kernel_rfl)
end Two
end Go.Proofs.YthaomecbklmmdaaDoor
