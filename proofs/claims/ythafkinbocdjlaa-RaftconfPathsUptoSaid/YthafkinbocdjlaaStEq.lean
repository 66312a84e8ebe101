/-
  The walk engine: structs held against each other.
-/
import Derived.Test.YthafkinbocdjlaaRules2
import Derived.Laws.StructEq
namespace Go.Lw
section
variable {P : Program} {n : Nat} {ops : Array Oper} {Q : Exit → Act → World → Prop} {S : World → Prop} {rest : List (Bool × Oper)} {E : Env} {w : World} {o : Oper} {d : Nat} {v : Value} {x y : Operand} {T : Bool}
theorem RL.stEq {t yt : TypeId} {us vs : Array Value} (hg : wants ops E o = some true) (hd : o.dst = some d) (hb : Nat.blt d n = true) (ho : o.op = .binOp .eql t x y yt) (hm : P.eqGuardType P.depth t = false)
    (hx : ev E x = some (.agg us)) (hy : ev E y = some (.agg vs)) (hr : ∀ w, (binOp .eql t (.agg us) (.agg vs)).run P w = .ok v w) (h : RL P n ops Q S rest ((d, v) :: E) w) : RL P n ops Q S ((T, o) :: rest) E w := by
  refine RL.val hg hd hb (fun w ac ha => ?_) h
  unfold execOp
  simp only [ho, ha.ev hx, ha.ev hy, Sem.run_bind, run_eqGuard_agg _ _ _ _ _ _ _ hm, Result.andThen_ok]
  simp [hr w]
theorem RL.stNe {t yt : TypeId} {us vs : Array Value} (hg : wants ops E o = some true) (hd : o.dst = some d) (hb : Nat.blt d n = true) (ho : o.op = .binOp .neq t x y yt) (hm : P.eqGuardType P.depth t = false)
    (hx : ev E x = some (.agg us)) (hy : ev E y = some (.agg vs)) (hr : ∀ w, (binOp .neq t (.agg us) (.agg vs)).run P w = .ok v w) (h : RL P n ops Q S rest ((d, v) :: E) w) : RL P n ops Q S ((T, o) :: rest) E w := by
  refine RL.val hg hd hb (fun w ac ha => ?_) h
  unfold execOp
  simp only [ho, ha.ev hx, ha.ev hy, Sem.run_bind, run_eqGuard_agg _ _ _ _ _ _ _ hm, Result.andThen_ok]
  simp [hr w]
end
end Go.Lw
