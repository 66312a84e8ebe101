/-
  THE WALK ENGINE, part 13: function values: closures made, called by value.
-/
import Derived.Test.YthaomecbklmmdaaRules7
namespace Go.Lw
section
variable {P : Program} {n : Nat} {ops : Array Oper} {Q : Exit → Act → World → Prop} {S : World → Prop} {rest : List (Bool × Oper)} {E : Env} {w : World} {o : Oper} {d : Nat} {v : Value}
variable {s A : Res} {os : List Res} {x y : Operand} {T : Bool}

/-- func literals: what they capture -/
theorem RL.makeF {fn : Fn} {cap : Array Operand} {l : List Value} (hg : wants ops E o = some true) (hd : o.dst = some d) (hb : Nat.blt d n = true) (ho : o.op = .makeFunc fn #[] cap) (hl : evs E cap.toList = some l)
    (h : RL P n ops Q S rest ((d, .func fn #[] l.toArray) :: E) w) : RL P n ops Q S ((T, o) :: rest) E w := by
  refine RL.val hg hd hb (fun w ac ha => ?_) h
  have hargs : (cap.map ac.eval) = l.toArray := by
    rw [← Array.toArray_toList (xs := cap), List.map_toArray, ha.evs hl]
  unfold execOp
  simp only [ho, hargs]
  simp [Instr.makeFunc]

/-- A call of a function value. -/
theorem RL.callF {f : FuncId} {args : Array Operand} {ats : Array TypeId} {l : List Value} {cap : Array Value} {R : Ending → World → Prop} (hg : wants ops E o = some true) (hd : o.dst = some d) (hb : Nat.blt d n = true)
    (ho : o.op = .call { callee := .value x, args := args, argTypes := ats }) (hx : ev E x = some (.func (.func f) #[] cap)) (hl : evs E args.toList = some l) (hc : callable P f = true) (hct : Calls P f (l.toArray ++ cap) w R)
    (h : ∀ e w', R e w' → ∃ v, e = .returned v ∧ S w' ∧ RL P n ops Q S rest ((d, v) :: E) w') : RL P n ops Q S ((false, o) :: rest) E w := fun _ ac ha => by
  have hargs : (args.map ac.eval) = l.toArray := by
    rw [← Array.toArray_toList (xs := args), List.map_toArray, ha.evs hl]
  have hev : ac.eval x = .func (.func f) #[] cap := ha.ev hx
  simp only [RA, ha.wants hg, if_true]
  unfold Oper.wp
  have hrun : (execOp ac.eval o).run P w = .ok (.enter f (l.toArray ++ cap)) w := by
    unfold execOp
    simp only [ho]
    simp only [resolve, hargs, hev, Deferred.ofValue, invoke, Sem.run_bind, Sem.run_pure, Result.andThen_ok, Array.empty_append, run_callFunc hc]
  rw [hrun]
  simp only [Oper.upon]
  refine hct.mono fun e w' hp => ?_
  obtain ⟨v, rfl, h5, h6⟩ := h e w' hp
  simp only [hd]
  exact ⟨h5, h6 h5 _ (ha.put hb v)⟩
/-- s[:h], h up to the capacity -/
theorem RL.reslice {α : Type} {R : Res → List Value → α → Prop} {t e : TypeId} {sz by_ c m : Nat} {k : IntKind} {a : Option Addr} {xs : List α} {h : Int} (hg : wants ops E o = some true) (hd : o.dst = some d) (hb : Nat.blt d n = true)
    (ho : o.op = .slice t x none (some y) none) (ht : slc P t = some (e, sz, by_)) (hx : ev E x = some (.slice a m c)) (hy : ev E y = some (.int k h))
    (hI : Imm R sz s a c xs) (h0 : 0 ≤ h) (h2 : h ≤ xs.length)
    (hK : ∀ a', Imm R sz s a' c xs → RL P n ops Q S rest ((d, .slice a' h.toNat c) :: E) w) : RL P n ops Q S ((T, o) :: rest) E w := by
  obtain ⟨hI', hlen⟩ := hI.part (l := 0) (h := xs.length) (by omega) (Nat.le_refl _)
  rw [Nat.sub_zero, List.drop_zero, List.take_length] at hI'
  refine RL.val hg hd hb (fun w ac ha => ?_) (hK _ hI')
  obtain ⟨hu, inf, hi', rfl, _⟩ := slc_spec ht
  have hsz : ∀ w : World, (sizeOf e).run P w = .ok inf.size w := fun w => by simp [sizeOf, typeInfo, hi']
  have hcap := hI.1
  have hh' : ∀ k (y : Nat) code, h ≤ y → (Instr.sliceBound (.int k h) y code).run P w = .ok h.toNat w := fun k y code hy => run_sliceBound w k h y code (by omega) hy
  unfold execOp
  simp only [ho, ha.ev hx]
  simp [Instr.sliceAt, Instr.slice, Instr.sliceBounds, run_underlying hu, hsz, ha.ev hy, hh' k c .sliceAcap (by omega)]
end
end Go.Lw
