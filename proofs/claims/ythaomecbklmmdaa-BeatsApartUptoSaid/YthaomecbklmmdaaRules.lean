/-
  THE WALK ENGINE, part 4: the rules by which a list of operations is gone through; code; calls.
-/
import Derived.Test.YthaomecbklmmdaaOps
namespace Go.Lw
open Go.RowKit

section
variable {P : Program} {n : Nat} {ops : Array Oper} {Q : Exit → Act → World → Prop} {S : World → Prop} {rest : List (Bool × Oper)} {E : Env} {w : World} {o : Oper} {d : Nat} {v : Value}
variable {s : Res} {os : List Res} {A : Res} {x y : Operand} {T : Bool}

/-! ### integers -/
theorem run_pure_binop {op : BinOp} {t yt : TypeId} {k j : IntKind} {a b : Int} {v : Value} (ho : o.op = .binOp op t x y yt) (hx : ev E x = some (.int k a)) (hy : ev E y = some (.int j b))
    (hr : ∀ w : World, (binOp op t (.int k a) (.int j b)).run P w = .ok v w) : ∀ w, Run P n o E w v w := fun w ac ha => by
  unfold execOp
  simp only [ho, ha.ev hx, ha.ev hy]
  simp [Sem.run_bind, run_eqGuard_int, hr w]

/-- Whatever yields a value in every world. -/
theorem RL.val (hg : wants ops E o = some true) (hd : o.dst = some d) (hb : Nat.blt d n = true) (hr : ∀ w, Run P n o E w v w) (h : RL P n ops Q S rest ((d, v) :: E) w) :
    RL P n ops Q S ((T, o) :: rest) E w := by
  cases T with
  | false => exact fun hS => RL.step hg hd hb (hr w) hS h hS
  | true => exact RL.take hg hd hb (fun w _ => hr w) h

theorem RL.add {k : IntKind} {a b : Int} {t yt : TypeId} (hg : wants ops E o = some true) (hd : o.dst = some d) (hb : Nat.blt d n = true) (ho : o.op = .binOp .add t x y yt) (hx : ev E x = some (.int k a)) (hy : ev E y = some (.int k b))
    (hr : rng k (a + b)) (h : RL P n ops Q S rest ((d, .int k (a + b)) :: E) w) : RL P n ops Q S ((T, o) :: rest) E w :=
  RL.val hg hd hb (run_pure_binop ho hx hy fun w => by rw [run_intOp (v := .int k (a + b)) w (by simp [intOp, hr.wrap])]) h
theorem RL.sub {k : IntKind} {a b : Int} {t yt : TypeId} (hg : wants ops E o = some true) (hd : o.dst = some d) (hb : Nat.blt d n = true) (ho : o.op = .binOp .sub t x y yt) (hx : ev E x = some (.int k a)) (hy : ev E y = some (.int k b))
    (hr : rng k (a - b)) (h : RL P n ops Q S rest ((d, .int k (a - b)) :: E) w) : RL P n ops Q S ((T, o) :: rest) E w :=
  RL.val hg hd hb (run_pure_binop ho hx hy fun w => by rw [run_intOp (v := .int k (a - b)) w (by simp [intOp, hr.wrap])]) h
theorem RL.mul {k : IntKind} {a b : Int} {t yt : TypeId} (hg : wants ops E o = some true) (hd : o.dst = some d) (hb : Nat.blt d n = true) (ho : o.op = .binOp .mul t x y yt) (hx : ev E x = some (.int k a)) (hy : ev E y = some (.int k b))
    (hr : rng k (a * b)) (h : RL P n ops Q S rest ((d, .int k (a * b)) :: E) w) : RL P n ops Q S ((T, o) :: rest) E w :=
  RL.val hg hd hb (run_pure_binop ho hx hy fun w => by rw [run_intOp (v := .int k (a * b)) w (by simp [intOp, hr.wrap])]) h
/-- The value as one would write it. -/
theorem RL.as_ {v0 : Value} (hg : wants ops E o = some true) (hd : o.dst = some d) (hb : Nat.blt d n = true) (hp : pv (ev E) o.op = some v0) (v : Value) (hv : v0 = v) (h : RL P n ops Q S rest ((d, v) :: E) w) :
    RL P n ops Q S ((T, o) :: rest) E w := by
  subst hv
  exact RL.pure hg hd hb hp h
theorem RL.quo {k : IntKind} {a b : Int} {t yt : TypeId} (hg : wants ops E o = some true) (hd : o.dst = some d) (hb : Nat.blt d n = true) (ho : o.op = .binOp .quo t x y yt) (hx : ev E x = some (.int k a)) (hy : ev E y = some (.int k b))
    (h0 : 0 ≤ a) (h1 : 0 < b) (hr : rng k a) (h : RL P n ops Q S rest ((d, .int k (a / b)) :: E) w) : RL P n ops Q S ((T, o) :: rest) E w := by
  refine RL.val hg hd hb (run_pure_binop ho hx hy fun w => ?_) h
  have hb0 : b ≠ 0 := by omega
  have hle : 0 ≤ a / b ∧ a / b ≤ a := IntWalk.tdiv_le a b h0 (by omega)
  have hw : rng k (a / b) := by cases k <;> simp only [rng] at hr ⊢ <;> omega
  simp [binOp, Op.intDiv, hb0, Int.tdiv_eq_ediv_of_nonneg h0, hw.wrap]
theorem RL.rem {k : IntKind} {a b : Int} {t yt : TypeId} (hg : wants ops E o = some true) (hd : o.dst = some d) (hb : Nat.blt d n = true) (ho : o.op = .binOp .rem t x y yt) (hx : ev E x = some (.int k a)) (hy : ev E y = some (.int k b))
    (h0 : 0 ≤ a) (h1 : 0 < b) (h : RL P n ops Q S rest ((d, .int k (a % b)) :: E) w) : RL P n ops Q S ((T, o) :: rest) E w := by
  refine RL.val hg hd hb (run_pure_binop ho hx hy fun w => ?_) h
  have hb0 : b ≠ 0 := by omega
  simp [binOp, Op.intDiv, hb0, Int.tmod_eq_emod_of_nonneg h0]
theorem RL.shr {k j : IntKind} {a b : Int} {t yt : TypeId} (m : Nat) (hg : wants ops E o = some true) (hd : o.dst = some d) (hb : Nat.blt d n = true) (ho : o.op = .binOp .shr t x y yt) (hx : ev E x = some (.int k a)) (hy : ev E y = some (.int j b))
    (hm : b = (m : Int)) (hk : m ≤ k.bits) (h : RL P n ops Q S rest ((d, .int k (a / 2 ^ m)) :: E) w) : RL P n ops Q S ((T, o) :: rest) E w := by
  refine RL.val hg hd hb (run_pure_binop ho hx hy fun w => ?_) h
  subst hm
  have h0 : ¬ ((m : Int) < 0) := by omega
  have hmin : min m k.bits = m := Nat.min_eq_left hk
  have hp : (0 : Int) ≤ 2 ^ m := Int.le_of_lt (Int.pow_pos (by omega))
  simp [binOp, Op.shift, h0, hmin, Int.fdiv_eq_ediv_of_nonneg a hp]
theorem RL.shl {k j : IntKind} {a b : Int} {t yt : TypeId} (m : Nat) (hg : wants ops E o = some true) (hd : o.dst = some d) (hb : Nat.blt d n = true) (ho : o.op = .binOp .shl t x y yt) (hx : ev E x = some (.int k a)) (hy : ev E y = some (.int j b))
    (hm : b = (m : Int)) (hk : m ≤ k.bits) (h : RL P n ops Q S rest ((d, .int k (k.wrap (a * 2 ^ m))) :: E) w) : RL P n ops Q S ((T, o) :: rest) E w := by
  refine RL.val hg hd hb (run_pure_binop ho hx hy fun w => ?_) h
  subst hm
  have h0 : ¬ ((m : Int) < 0) := by omega
  have hmin : min m k.bits = m := Nat.min_eq_left hk
  simp [binOp, Op.shift, h0, hmin]
theorem run_conv_int {src dst : TypeId} {k j : IntKind} {a : Int} {u : TypeDesc} (hs : P.underlying src = some u) (ht : P.underlying dst = some (.int k)) (w : World) : (convert src dst (.int j a)).run P w = .ok (.int k (k.wrap a)) w := by
  cases u <;> simp [convert, run_underlying hs, run_underlying ht, Conv.intToInt]
/-- A conversion that changes nothing. -/
theorem RL.conv {k j : IntKind} {a : Int} {src dst : TypeId} {u : TypeDesc} (hg : wants ops E o = some true) (hd : o.dst = some d) (hb : Nat.blt d n = true) (ho : o.op = .convert src dst x) (hs : P.underlying src = some u) (ht : P.underlying dst = some (.int k))
    (hx : ev E x = some (.int j a)) (hr : rng k a) (h : RL P n ops Q S rest ((d, .int k a) :: E) w) : RL P n ops Q S ((T, o) :: rest) E w := by
  refine RL.val hg hd hb (fun w ac ha => ?_) h
  unfold execOp
  simp only [ho, ha.ev hx]
  simp [run_conv_int hs ht, hr.wrap]
theorem RL.convw {k j : IntKind} {a : Int} {src dst : TypeId} {u : TypeDesc} (hg : wants ops E o = some true) (hd : o.dst = some d) (hb : Nat.blt d n = true) (ho : o.op = .convert src dst x) (hs : P.underlying src = some u) (ht : P.underlying dst = some (.int k))
    (hx : ev E x = some (.int j a)) (h : RL P n ops Q S rest ((d, .int k (k.wrap a)) :: E) w) : RL P n ops Q S ((T, o) :: rest) E w := by
  refine RL.val hg hd hb (fun w ac ha => ?_) h
  unfold execOp
  simp only [ho, ha.ev hx]
  simp [run_conv_int hs ht]

/-! ### len, min, max -/
theorem RL.len {t : TypeId} {e : TypeId} {sz by_ m c : Nat} {a : Option Addr} (hg : wants ops E o = some true) (hd : o.dst = some d) (hb : Nat.blt d n = true)
    (ho : o.op = .call { callee := .builtin .len, args := #[x], argTypes := #[t] }) (ht : slc P t = some (e, sz, by_)) (hx : ev E x = some (.slice a m c)) (h : RL P n ops Q S rest ((d, .int .i64 m) :: E) w) : RL P n ops Q S ((T, o) :: rest) E w := by
  refine RL.val hg hd hb (fun w ac ha => ?_) h
  unfold execOp
  simp only [ho]
  simp [resolve, invoke, builtin, Builtin.len_, ha.ev hx, run_underlying (slc_spec ht).1, goInt]
theorem RL.lens {t : TypeId} {b : ByteArray} (hg : wants ops E o = some true) (hd : o.dst = some d) (hb : Nat.blt d n = true)
    (ho : o.op = .call { callee := .builtin .len, args := #[x], argTypes := #[t] }) (ht : P.underlying t = some .string) (hx : ev E x = some (.string b)) (h : RL P n ops Q S rest ((d, .int .i64 b.size) :: E) w) : RL P n ops Q S ((T, o) :: rest) E w := by
  refine RL.val hg hd hb (fun w ac ha => ?_) h
  unfold execOp
  simp only [ho]
  simp [resolve, invoke, builtin, Builtin.len_, ha.ev hx, run_underlying ht, goInt]
theorem RL.min {t t' : TypeId} {k j : IntKind} {a b : Int} (hg : wants ops E o = some true) (hd : o.dst = some d) (hb : Nat.blt d n = true)
    (ho : o.op = .call { callee := .builtin .min, args := #[x, y], argTypes := #[t, t'] }) (hx : ev E x = some (.int k a)) (hy : ev E y = some (.int j b)) (h : RL P n ops Q S rest ((d, .int k (if b < a then b else a)) :: E) w) : RL P n ops Q S ((T, o) :: rest) E w := by
  refine RL.val hg hd hb (fun w ac ha => ?_) h
  unfold execOp
  simp only [ho]
  simp [resolve, invoke, builtin, Builtin.min_, Builtin.min2, ha.ev hx, ha.ev hy]
theorem RL.max {t t' : TypeId} {k j : IntKind} {a b : Int} (hg : wants ops E o = some true) (hd : o.dst = some d) (hb : Nat.blt d n = true)
    (ho : o.op = .call { callee := .builtin .max, args := #[x, y], argTypes := #[t, t'] }) (hx : ev E x = some (.int k a)) (hy : ev E y = some (.int j b)) (h : RL P n ops Q S rest ((d, .int k (if b > a then b else a)) :: E) w) : RL P n ops Q S ((T, o) :: rest) E w := by
  refine RL.val hg hd hb (fun w ac ha => ?_) h
  unfold execOp
  simp only [ho]
  simp [resolve, invoke, builtin, Builtin.max_, Builtin.max2, ha.ev hx, ha.ev hy]

/-! ### strings -/
theorem run_eqGuard_str (P : Program) (op : BinOp) (t : TypeId) (x y : Operand) (a b : ByteArray) (w : World) : (eqGuard op t x y (.string a) (.string b)).run P w = .ok () w := by
  unfold eqGuard
  cases op <;> rfl
theorem RL.sEq {t yt : TypeId} {a b : ByteArray} (hg : wants ops E o = some true) (hd : o.dst = some d) (hb : Nat.blt d n = true) (ho : o.op = .binOp .eql t x y yt) (hx : ev E x = some (.string a)) (hy : ev E y = some (.string b))
    (h : RL P n ops Q S rest ((d, .bool (a.toList == b.toList)) :: E) w) : RL P n ops Q S ((T, o) :: rest) E w := by
  refine RL.val hg hd hb (fun w ac ha => ?_) h
  unfold execOp
  simp only [ho, ha.ev hx, ha.ev hy]
  simp [run_eqGuard_str, binOp_string_eql]
theorem RL.sNe {t yt : TypeId} {a b : ByteArray} (hg : wants ops E o = some true) (hd : o.dst = some d) (hb : Nat.blt d n = true) (ho : o.op = .binOp .neq t x y yt) (hx : ev E x = some (.string a)) (hy : ev E y = some (.string b))
    (h : RL P n ops Q S rest ((d, .bool (!(a.toList == b.toList))) :: E) w) : RL P n ops Q S ((T, o) :: rest) E w := by
  refine RL.val hg hd hb (fun w ac ha => ?_) h
  unfold execOp
  simp only [ho, ha.ev hx, ha.ev hy]
  simp [run_eqGuard_str, binOp_string_neq]
theorem RL.sAdd {t yt : TypeId} {a b : ByteArray} (hg : wants ops E o = some true) (hd : o.dst = some d) (hb : Nat.blt d n = true) (ho : o.op = .binOp .add t x y yt) (hx : ev E x = some (.string a)) (hy : ev E y = some (.string b))
    (hl : a.size + b.size ≤ 9223372036854775807) (h : RL P n ops Q S rest ((d, .string (a ++ b)) :: E) w) : RL P n ops Q S ((T, o) :: rest) E w := by
  refine RL.val hg hd hb (fun w ac ha => ?_) h
  have hl' : ¬ ((((a.size + b.size : Nat)) : Int) > IntKind.i64.max) := by
    have : IntKind.i64.max = 9223372036854775807 := by decide
    omega
  unfold execOp
  simp only [ho, ha.ev hx, ha.ev hy]
  simp only [Sem.run_bind, run_eqGuard_str, Result.andThen_ok, binOp_string_add, Op.stringOp, if_neg hl', Sem.run_pure]

/-! ### bools -/
theorem run_eqGuard_bool (P : Program) (op : BinOp) (t : TypeId) (x y : Operand) (a b : Bool) (w : World) : (eqGuard op t x y (.bool a) (.bool b)).run P w = .ok () w := by
  unfold eqGuard
  cases op <;> rfl
theorem run_equalIn_bool {t : TypeId} (ht : P.underlying t = some .bool) (a b : Bool) (d : Nat) (w : World) : (Op.equalIn (d + 1) t (.bool a) (.bool b)).run P w = .ok (a == b) w := by
  simp [Op.equalIn, run_underlying ht]
theorem run_equal_bool {t : TypeId} (ht : P.underlying t = some .bool) (a b : Bool) (w : World) : (Op.equal t (.bool a) (.bool b)).run P w = .ok (a == b) w := run_equalIn_bool ht a b 9999 w
theorem RL.bEq {t yt : TypeId} {a b : Bool} (hg : wants ops E o = some true) (hd : o.dst = some d) (hb : Nat.blt d n = true) (ho : o.op = .binOp .eql t x y yt) (ht : P.underlying t = some .bool) (hx : ev E x = some (.bool a)) (hy : ev E y = some (.bool b))
    (h : RL P n ops Q S rest ((d, .bool (a == b)) :: E) w) : RL P n ops Q S ((T, o) :: rest) E w := by
  refine RL.val hg hd hb (fun w ac ha => ?_) h
  unfold execOp
  simp only [ho, ha.ev hx, ha.ev hy]
  simp only [Sem.run_bind, run_eqGuard_bool, Result.andThen_ok, binOp, run_equal_bool ht, Sem.run_pure]
theorem RL.bNe {t yt : TypeId} {a b : Bool} (hg : wants ops E o = some true) (hd : o.dst = some d) (hb : Nat.blt d n = true) (ho : o.op = .binOp .neq t x y yt) (ht : P.underlying t = some .bool) (hx : ev E x = some (.bool a)) (hy : ev E y = some (.bool b))
    (h : RL P n ops Q S rest ((d, .bool (a != b)) :: E) w) : RL P n ops Q S ((T, o) :: rest) E w := by
  refine RL.val hg hd hb (fun w ac ha => ?_) h
  unfold execOp
  simp only [ho, ha.ev hx, ha.ev hy]
  simp only [Sem.run_bind, run_eqGuard_bool, Result.andThen_ok, binOp, run_equal_bool ht, Sem.run_pure, bne]

end
end Go.Lw
