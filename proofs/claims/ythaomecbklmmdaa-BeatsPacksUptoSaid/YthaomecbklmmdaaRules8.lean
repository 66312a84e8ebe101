/-
  THE WALK ENGINE, part 12: calls of functions that the model itself answers, by name or by an interface's method; methods of the program's own by an interface.
-/
import Derived.Test.YthaomecbklmmdaaRules7
import Derived.Laws.Externs
namespace Go.Lw
section
variable {P : Program} {n : Nat} {ops : Array Oper} {Q : Exit → Act → World → Prop} {S : World → Prop} {rest : List (Bool × Oper)} {E : Env} {w w' : World} {o : Oper} {d : Nat} {v : Value}
variable {s A : Res} {os : List Res} {x y : Operand} {T : Bool}

theorem call_func_run {f : FuncId} {args : Array Operand} {ats : Array TypeId} {l : List Value} {nx : Result Next} (ho : o.op = .call { callee := .value (.func f), args := args, argTypes := ats }) (hl : evs E args.toList = some l)
    (h : (callFunc f l.toArray).run P w = nx) (ac : Act) (ha : At n E ac) : (execOp ac.eval o).run P w = nx := by
  have hargs : (args.map ac.eval) = l.toArray := by
    rw [← Array.toArray_toList (xs := args), List.map_toArray, ha.evs hl]
  have hev : ac.eval (.func f) = .func (.func f) #[] #[] := rfl
  unfold execOp
  simp only [ho]
  simp only [resolve, hargs, hev, Deferred.ofValue, invoke, Sem.run_bind, Sem.run_pure, Result.andThen_ok, Array.append_empty, Array.empty_append, h]
theorem call_invoke_run {name : String} {args : Array Operand} {ats : Array TypeId} {l : List Value} {nx : Result Next} (ho : o.op = .call { callee := .invoke x name, args := args, argTypes := ats }) (hx : ev E x = some v) (hl : evs E args.toList = some l)
    (h : (callMethod v name l.toArray).run P w = nx) (ac : Act) (ha : At n E ac) : (execOp ac.eval o).run P w = nx := by
  have hargs : (args.map ac.eval) = l.toArray := by
    rw [← Array.toArray_toList (xs := args), List.map_toArray, ha.evs hl]
  have hz : (#[v] ++ l.toArray)[0]? = some v := by simp
  have he : (#[v] ++ l.toArray).extract 1 (#[v] ++ l.toArray).size = l.toArray := by
    apply Array.ext'
    simp
  unfold execOp
  simp only [ho]
  simp only [resolve, hargs, ha.ev hx, invoke, Sem.run_bind, Sem.run_pure, Result.andThen_ok, hz, he, h]

/-- A function of the model's own, whose answer hangs on its arguments alone. -/
theorem RL.ext {f : FuncId} {args : Array Operand} {ats : Array TypeId} {l : List Value} (hg : wants ops E o = some true) (hd : o.dst = some d) (hb : Nat.blt d n = true)
    (ho : o.op = .call { callee := .value (.func f), args := args, argTypes := ats }) (hl : evs E args.toList = some l) (hc : (callFunc f l.toArray).run P w = .ok (.value v) w')
    (h : S w' ∧ RL P n ops Q S rest ((d, v) :: E) w') : RL P n ops Q S ((false, o) :: rest) E w :=
  RL.step hg hd hb (fun ac ha => call_func_run ho hl hc ac ha) h.1 h.2
/-- A method of the model's own, by an interface. -/
theorem RL.extI {name : String} {u : Value} {args : Array Operand} {ats : Array TypeId} {l : List Value} (hg : wants ops E o = some true) (hd : o.dst = some d) (hb : Nat.blt d n = true)
    (ho : o.op = .call { callee := .invoke x name, args := args, argTypes := ats }) (hx : ev E x = some u) (hl : evs E args.toList = some l) (hc : (callMethod u name l.toArray).run P w = .ok (.value v) w')
    (h : S w' ∧ RL P n ops Q S rest ((d, v) :: E) w') : RL P n ops Q S ((false, o) :: rest) E w :=
  RL.step hg hd hb (fun ac ha => call_invoke_run ho hx hl hc ac ha) h.1 h.2
/-- A method of the program's own, by an interface. -/
theorem RL.callI {name : String} {u : Value} {f : FuncId} {args : Array Operand} {ats : Array TypeId} {l l' : List Value} {R : Ending → World → Prop} (hg : wants ops E o = some true) (hd : o.dst = some d) (hb : Nat.blt d n = true)
    (ho : o.op = .call { callee := .invoke x name, args := args, argTypes := ats }) (hx : ev E x = some u) (hl : evs E args.toList = some l) (hc : (callMethod u name l.toArray).run P w = .ok (.enter f l'.toArray) w) (hct : Calls P f l'.toArray w R)
    (h : ∀ e w', R e w' → ∃ v, e = .returned v ∧ S w' ∧ RL P n ops Q S rest ((d, v) :: E) w') : RL P n ops Q S ((false, o) :: rest) E w := fun _ ac ha => by
  simp only [RA, ha.wants hg, if_true]
  unfold Oper.wp
  rw [call_invoke_run ho hx hl hc ac ha]
  simp only [Oper.upon]
  refine hct.mono fun e w' hp => ?_
  obtain ⟨v, rfl, h5, h6⟩ := h e w' hp
  simp only [hd]
  exact ⟨h5, h6 h5 _ (ha.put hb v)⟩
/-- x.(T), whatever it answers. -/
theorem RL.tassert {ti ta : TypeId} {ok : Bool} {u : Value} (hg : wants ops E o = some true) (hd : o.dst = some d) (hb : Nat.blt d n = true) (ho : o.op = .typeAssert x ti ta ok) (hx : ev E x = some u) (hc : ∀ w, (Instr.typeAssert u ti ta ok).run P w = .ok v w)
    (h : RL P n ops Q S rest ((d, v) :: E) w) : RL P n ops Q S ((T, o) :: rest) E w := by
  refine RL.val hg hd hb (fun w ac ha => ?_) h
  unfold execOp
  simp only [ho, ha.ev hx]
  simp [hc w]
end
/-- A variable of one cell is set. -/
theorem Good.setOne {w : World} {s A : Res} {os : List Res} {t : Nat} {old v : Value} {el : TypeId} (h : Good w s (A :: os)) (hA : A t = some (.cells #[old] el (0, 0))) (_hv : v.oneCell' = true) :
    Good (w.setCell ⟨t, 0, none⟩ v) s (A.put t (.cells #[v] el (0, 0)) :: os) ∧ Aux w (w.setCell ⟨t, 0, none⟩ v) ∧ w.cell? ⟨t, 0, none⟩ = some old ∧ w.frozen? ⟨t, 0, none⟩ = false := by
  have hw := h.1 t _ hA
  refine ⟨h.write hA ?_ ?_, ⟨rfl, rfl, rfl, by simp [World.setCell]⟩, by simp [World.cell?, hw], by simp [World.frozen?, hw]⟩
  · simp only [World.setCell, Array.getElem?_modify, if_true, hw, Option.map_some]
    rfl
  · intro k _ hk
    simp [World.setCell, Array.getElem?_modify, Ne.symm hk]
end Go.Lw
