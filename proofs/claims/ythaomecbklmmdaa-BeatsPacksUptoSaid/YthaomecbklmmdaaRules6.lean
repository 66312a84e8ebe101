/-
  THE WALK ENGINE, part 10: interface values against nil, pointers against nil, makeInterface, new zero variables.
-/
import Derived.Test.YthaomecbklmmdaaRules5
namespace Go.Lw

def isNilI : Value → Bool
  | .nilIface => true
  | _ => false
/-- An interface's value. -/
def IsI (v : Value) : Prop := v = .nilIface ∨ ∃ t x, v = .iface t x

section
variable {P : Program} {n : Nat} {ops : Array Oper} {Q : Exit → Act → World → Prop} {S : World → Prop} {rest : List (Bool × Oper)} {E : Env} {w : World} {o : Oper} {d : Nat} {v : Value}
variable {s A : Res} {os : List Res} {x y : Operand} {T : Bool}

theorem run_eq_nilI {t : TypeId} {ms : Array (String × TypeId)} (hi : P.underlying t = some (.interface ms)) (hv : IsI v) (w : World) : (Op.equal t v .nilIface).run P w = .ok (isNilI v) w := by
  have h : ∀ d : Nat, (Op.equalIn (d + 1) t v .nilIface).run P w = .ok (isNilI v) w := fun d => by
    rcases hv with rfl | ⟨u, z, rfl⟩ <;> simp [Op.equalIn, run_underlying hi, isNilI]
  simp only [Op.equal, Op.maxDepth]
  exact h 9999
theorem run_eq_nilP {t e : TypeId} {a : Option Addr} (ht : P.underlying t = some (.pointer e)) (w : World) : (Op.equal t (.pointer a) (.pointer none)).run P w = .ok a.isNone w := by
  have h : ∀ d : Nat, (Op.equalIn (d + 1) t (.pointer a) (.pointer none)).run P w = .ok a.isNone w := fun d => by
    cases a <;> simp [Op.equalIn, run_underlying ht]
  simp only [Op.equal, Op.maxDepth]
  exact h 9999
theorem guard_nilI {op : BinOp} {t : TypeId} {x : Operand} (hv : IsI v) (w : World) : (eqGuard op t x (.const .nilIface) v .nilIface).run P w = .ok () w := by
  unfold eqGuard
  rcases hv with rfl | ⟨u, z, rfl⟩ <;> cases op <;> simp
/-- e == nil, e != nil -/
theorem RL.ifEq {t yt : TypeId} {ms : Array (String × TypeId)} (hg : wants ops E o = some true) (hd : o.dst = some d) (hb : Nat.blt d n = true) (ho : o.op = .binOp .eql t x (.const .nilIface) yt) (hi : P.underlying t = some (.interface ms))
    (hx : ev E x = some v) (hv : IsI v) (h : RL P n ops Q S rest ((d, .bool (isNilI v)) :: E) w) : RL P n ops Q S ((T, o) :: rest) E w := by
  refine RL.val hg hd hb (fun w ac ha => ?_) h
  have hc : ac.eval (.const .nilIface) = .nilIface := rfl
  unfold execOp
  simp only [ho, ha.ev hx, hc, Sem.run_bind, guard_nilI hv, Result.andThen_ok]
  have h2 := run_eq_nilI (P := P) hi hv w
  rcases hv with rfl | ⟨u, z, rfl⟩ <;> simp only [binOp] <;> simp [h2]
theorem RL.ifNe {t yt : TypeId} {ms : Array (String × TypeId)} (hg : wants ops E o = some true) (hd : o.dst = some d) (hb : Nat.blt d n = true) (ho : o.op = .binOp .neq t x (.const .nilIface) yt) (hi : P.underlying t = some (.interface ms))
    (hx : ev E x = some v) (hv : IsI v) (h : RL P n ops Q S rest ((d, .bool (!isNilI v)) :: E) w) : RL P n ops Q S ((T, o) :: rest) E w := by
  refine RL.val hg hd hb (fun w ac ha => ?_) h
  have hc : ac.eval (.const .nilIface) = .nilIface := rfl
  unfold execOp
  simp only [ho, ha.ev hx, hc, Sem.run_bind, guard_nilI hv, Result.andThen_ok]
  have h2 := run_eq_nilI (P := P) hi hv w
  rcases hv with rfl | ⟨u, z, rfl⟩ <;> simp only [binOp] <;> simp [h2]

/-- p == nil -/
theorem RL.ptrEq {t e yt : TypeId} {a : Option Addr} (hg : wants ops E o = some true) (hd : o.dst = some d) (hb : Nat.blt d n = true) (ho : o.op = .binOp .eql t x y yt) (ht : P.underlying t = some (.pointer e))
    (hx : ev E x = some (.pointer a)) (hy : ev E y = some (.pointer none)) (h : RL P n ops Q S rest ((d, .bool a.isNone) :: E) w) : RL P n ops Q S ((T, o) :: rest) E w := by
  refine RL.val hg hd hb (fun w ac ha => ?_) h
  have hgd : (eqGuard .eql t x y (.pointer a) (.pointer none)).run P w = .ok () w := by unfold eqGuard; rfl
  unfold execOp
  simp only [ho, ha.ev hx, ha.ev hy, Sem.run_bind, hgd, Result.andThen_ok]
  have h2 := run_eq_nilP (P := P) (a := a) ht w
  simp only [binOp]
  simp [h2]
theorem RL.ptrNe {t e yt : TypeId} {a : Option Addr} (hg : wants ops E o = some true) (hd : o.dst = some d) (hb : Nat.blt d n = true) (ho : o.op = .binOp .neq t x y yt) (ht : P.underlying t = some (.pointer e))
    (hx : ev E x = some (.pointer a)) (hy : ev E y = some (.pointer none)) (h : RL P n ops Q S rest ((d, .bool (!a.isNone)) :: E) w) : RL P n ops Q S ((T, o) :: rest) E w := by
  refine RL.val hg hd hb (fun w ac ha => ?_) h
  have hgd : (eqGuard .neq t x y (.pointer a) (.pointer none)).run P w = .ok () w := by unfold eqGuard; rfl
  unfold execOp
  simp only [ho, ha.ev hx, ha.ev hy, Sem.run_bind, hgd, Result.andThen_ok]
  have h2 := run_eq_nilP (P := P) (a := a) ht w
  simp only [binOp]
  simp [h2]

/-- a concrete type's value as an interface's -/
def concrete (P : Program) (t : TypeId) : Bool :=
  match P.underlying t with
  | some (.interface _) => false
  | some _ => true
  | none => false
theorem RL.iface {t : TypeId} (hg : wants ops E o = some true) (hd : o.dst = some d) (hb : Nat.blt d n = true) (ho : o.op = .makeInterface t x) (ht : concrete P t = true)
    (hx : ev E x = some v) (h : RL P n ops Q S rest ((d, .iface t v) :: E) w) : RL P n ops Q S ((T, o) :: rest) E w := by
  refine RL.val hg hd hb (fun w ac ha => ?_) h
  unfold execOp
  simp only [ho, ha.ev hx]
  unfold concrete at ht
  cases hu : P.underlying t with
  | none => rw [hu] at ht; cases ht
  | some u =>
    rw [hu] at ht
    cases u <;> first | (cases ht; done) | simp [Instr.makeInterface, run_underlying hu]

/-- A new zero variable of one cell, or of several. -/
theorem RL.alloc {t : TypeId} {z : List Value} (hg : wants ops E o = some true) (hd : o.dst = some d) (hb : Nat.blt d n = true) (ho : o.op = .alloc t) (hz : zer P t = some z) (hG : Good w s os)
    (h : ∀ b w', Good w' s (Res.one b (.cells z.toArray t) :: os) → Aux w w' → S w' ∧ RL P n ops Q S rest ((d, .pointer (some ⟨b, 0, none⟩)) :: E) w') : RL P n ops Q S ((false, o) :: rest) E w := by
  obtain ⟨h1, h2⟩ := h w.heap.size _ (hG.alloc (.cells z.toArray t)) (Aux.alloc w _)
  refine RL.step hg hd hb (fun ac ha => ?_) h1 h2
  unfold zer at hz
  cases hi : P.info? t with
  | none => simp [hi] at hz
  | some i =>
    cases hzz : i.zero with
    | none => simp [hi, hzz] at hz
    | some u =>
      simp [hi, hzz] at hz
      unfold execOp
      simp only [ho]
      have hzv : (zeroValue t).run P w = .ok u w := by simp [zeroValue, typeInfo, hi, hzz]
      have e : u.cells = z.toArray := by rw [← hz]
      simp [Instr.alloc, hzv, newVar, newRow, e]
end
end Go.Lw
