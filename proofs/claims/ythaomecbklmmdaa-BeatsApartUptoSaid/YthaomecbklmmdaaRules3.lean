/-
  THE WALK ENGINE, part 6: slices' parts, append, bytes to a string, interface values against nil, calls, a function's frame.
-/
import Derived.Test.YthaomecbklmmdaaRules2
namespace Go.Lw
open Go.RowKit

section
variable {P : Program} {n : Nat} {ops : Array Oper} {Q : Exit → Act → World → Prop} {S : World → Prop} {rest : List (Bool × Oper)} {E : Env} {w : World} {o : Oper} {d : Nat} {v : Value}
variable {s A : Res} {os : List Res} {x y : Operand} {T : Bool}

/-! ### x[lo:hi] of a slice that nobody writes -/
/-- A bound: absent, or a number. -/
def bnd (E : Env) (dflt : Nat) : Option Operand → Option Nat
  | none => some dflt
  | some x =>
    match ev E x with
    | some (.int _ i) => some i.toNat
    | _ => none

theorem Imm.part {α : Type} {R : Res → List Value → α → Prop} {sz c l h : Nat} {a : Option Addr} {xs : List α} (hI : Imm R sz s a c xs) (hl : l ≤ h) (hh : h ≤ xs.length) :
    Imm R sz s (if c = l then a else a.map (·.add (l * sz))) (c - l) ((xs.take h).drop l) ∧ ((xs.take h).drop l).length = h - l := by
  have hlen : ((xs.take h).drop l).length = h - l := by simp; omega
  refine ⟨⟨by rw [hlen]; have := hI.1; omega, by have := hI.2.1; omega, ?_⟩, hlen⟩
  by_cases he : h - l = 0
  · exact .inl (List.eq_nil_of_length_eq_zero (by rw [hlen]; exact he))
  · refine .inr ?_
    have hc := hI.1
    rcases hI.2.2 with rfl | ⟨ad, rfl, hr⟩
    · simp at hh; omega
    · have hne : ¬ c = l := by omega
      have e1 : xs = (xs.take h).take l ++ ((xs.take h).drop l ++ xs.drop h) := by rw [← List.append_assoc, List.take_append_drop, List.take_append_drop]
      rw [e1] at hr
      have hr2 := hr.drop
      have e2 : ((xs.take h).take l).length = l := by simp; omega
      rw [e2] at hr2
      exact ⟨ad.add (l * sz), by simp [hne], hr2.take⟩

theorem RL.part_ {α : Type} {R : Res → List Value → α → Prop} {t e : TypeId} {sz by_ c : Nat} {a : Option Addr} {xs : List α} {lo hi : Option Operand} (l h : Int) (hg : wants ops E o = some true) (hd : o.dst = some d) (hb : Nat.blt d n = true)
    (ho : o.op = .slice t x lo hi none) (ht : slc P t = some (e, sz, by_)) (hx : ev E x = some (.slice a xs.length c))
    (hlo : (lo = none ∧ l = 0) ∨ ∃ k z, lo = some z ∧ ev E z = some (.int k l)) (hhi : (hi = none ∧ h = xs.length) ∨ ∃ k z, hi = some z ∧ ev E z = some (.int k h))
    (hI : Imm R sz s a c xs) (h0 : 0 ≤ l) (h1 : l ≤ h) (h2 : h ≤ xs.length)
    (hK : ∀ a' c', Imm R sz s a' c' ((xs.take h.toNat).drop l.toNat) → RL P n ops Q S rest ((d, .slice a' ((xs.take h.toNat).drop l.toNat).length c') :: E) w) : RL P n ops Q S ((T, o) :: rest) E w := by
  obtain ⟨hI', hlen⟩ := hI.part (l := l.toNat) (h := h.toNat) (by omega) (by omega)
  refine RL.val hg hd hb (fun w ac ha => ?_) (hK _ _ hI')
  obtain ⟨hu, inf, hi', rfl, _⟩ := slc_spec ht
  have hsz : ∀ w : World, (sizeOf e).run P w = .ok inf.size w := fun w => by simp [sizeOf, typeInfo, hi']
  have hcap := hI.1
  have hl' : ∀ k (y : Nat) code, l ≤ y → (Instr.sliceBound (.int k l) y code).run P w = .ok l.toNat w := fun k y code hy => run_sliceBound w k l y code h0 hy
  have hh' : ∀ k (y : Nat) code, h ≤ y → (Instr.sliceBound (.int k h) y code).run P w = .ok h.toNat w := fun k y code hy => run_sliceBound w k h y code (by omega) hy
  rw [hlen]
  unfold execOp
  simp only [ho, ha.ev hx]
  rcases hlo with ⟨rfl, rfl⟩ | ⟨kl, zl, rfl, hzl⟩ <;> rcases hhi with ⟨rfl, rfl⟩ | ⟨kh, zh, rfl, hzh⟩
  · simp [Instr.sliceAt, Instr.slice, Instr.sliceBounds, run_underlying hu, hsz]
  · simp [Instr.sliceAt, Instr.slice, Instr.sliceBounds, run_underlying hu, hsz, ha.ev hzh, hh' kh c .sliceAcap (by omega)]
  · simp [Instr.sliceAt, Instr.slice, Instr.sliceBounds, run_underlying hu, hsz, ha.ev hzl, hl' kl xs.length .sliceB (by omega)]
  · simp [Instr.sliceAt, Instr.slice, Instr.sliceBounds, run_underlying hu, hsz, ha.ev hzl, ha.ev hzh, hh' kh c .sliceAcap (by omega), hl' kl h.toNat .sliceB (by omega)]

/-! ### append to a slice of one's own -/
theorem RL.append {α : Type} {R : Res → List Value → α → Prop} {t t2 e : TypeId} {sz by_ c : Nat} {i : Nat} {src : Value} {news z : List Value} {a : Option Addr} {xs ys : List α} (hg : wants ops E o = some true) (hd : o.dst = some d) (hb : Nat.blt d n = true)
    (ho : o.op = .call { callee := .builtin .append, args := #[x, y], argTypes := #[t, t2] }) (ht : slc P t = some (e, sz, by_)) (hz : zer P e = some z) (hzl : z.length = sz) (hone : One R)
    (hx : ev E x = some (.slice a xs.length c)) (hy : ev E y = some src) (hG : Good w s os) (hi : os[i]? = some A) (hown : Own R sz e s A a c xs) (hsrc : Src P w t2 sz src ys.length news) (hch : Chunks R sz s news ys)
    (hbytes : (xs.length + ys.length) * by_ ≤ 140737488355328) (hby : 0 < by_)
    (h : ∀ a' c' A' w', Good w' s (os.set i A') → Own R sz e s A' a' c' (xs ++ ys) → Aux w w' → (∀ b, A b ≠ none → (∀ ad, a = some ad → ad.block ≠ b) → A' b = A b) → S w' ∧ RL P n ops Q S rest ((d, .slice a' (xs ++ ys).length c') :: E) w') : RL P n ops Q S ((false, o) :: rest) E w := by
  have hmax : xs.length + ys.length ≤ maxLen := by
    have : (xs.length + ys.length) * 1 ≤ (xs.length + ys.length) * by_ := Nat.mul_le_mul_left _ hby
    simp only [maxLen]; omega
  obtain ⟨a', c', A', w', hrun, hG', hO', hA', hk⟩ := append_law (ty := o.type) (hG.front i hi) ht hz hzl hone hown hsrc hch hbytes hmax
  obtain ⟨h1, h2⟩ := h a' c' A' w' (Good.back i hi hG') hO' hA' hk
  refine RL.step hg hd hb (fun ac ha => ?_) h1 h2
  unfold execOp
  simp only [ho]
  simp only [resolve, invoke, builtin, Sem.run_bind, Sem.run_pure, Result.andThen_ok, List.map_toArray, List.map_cons, List.map_nil, ha.ev hx, ha.ev hy, hrun]

theorem Src.own {α : Type} {R : Res → List Value → α → Prop} {t e el : TypeId} {sz by_ : Nat} {a : Option Addr} {c : Nat} {ys : List α} (ht : slc P t = some (e, sz, by_)) (h : Own R sz el s A a c ys) (hin : In A w) :
    ∃ news, Src P w t sz (.slice a ys.length c) ys.length news ∧ Chunks R sz s news ys := by
  rcases h.row with rfl | ⟨ad, rfl, cs, hh, hc⟩
  · exact ⟨[], .slice ht (by simp) (.inl rfl) hin, rfl⟩
  · exact ⟨cs, .slice ht hc.length (.inr ⟨ad, rfl, hh⟩) hin, hc⟩

/-! ### bytes to a string -/
theorem bytes_cells {r : Res} {xs : List Int} {cs : List Value} (h : Chunks (RInt .u8) 1 r cs xs) : cs = xs.map (Value.int .u8) ∧ ∀ x ∈ xs, 0 ≤ x ∧ x < 256 := by
  induction xs generalizing cs with
  | nil => exact ⟨h, by simp⟩
  | cons x xs ih =>
    obtain ⟨vs, rest, rfl, _, ⟨rfl, hr⟩, h'⟩ := h
    obtain ⟨h1, h2⟩ := ih h'
    refine ⟨by rw [h1]; rfl, fun y hy => ?_⟩
    rcases List.mem_cons.1 hy with rfl | hy
    · exact hr
    · exact h2 y hy
theorem run_bts {t e st : TypeId} {by_ c : Nat} {a : Option Addr} {xs : List Int} {r s : Res} (ht : slc P t = some (e, 1, by_)) (he : P.underlying e = some (.int .u8)) (hst : P.underlying st = some .string)
    (hrow : xs = [] ∨ ∃ ad, a = some ad ∧ Row (RInt .u8) 1 r s ad xs) (hin : In r w) : (convert t st (.slice a xs.length c)).run P w = .ok (.string (strOfNums xs)) w := by
  have hu := (slc_spec ht).1
  rw [run_convert_bytes_string w t st e a xs.length c hu he hst]
  have key : ∀ ad, (loadCells ad xs.length).run P w = .ok (xs.map (Value.int .u8)).toArray w → (Conv.bytesToString (.slice (some ad) xs.length c)).run P w = .ok (.string (strOfNums xs)) w := fun ad hl => by
    rw [run_bytesToString w ad xs.length c xs hl, foldl_push_bytes]
    simp [strOfNums]
  cases a with
  | none =>
    rcases hrow with rfl | ⟨ad, h, _⟩
    · simp [Conv.bytesToString, strOfNums]; rfl
    · cases h
  | some ad =>
    refine key ad ?_
    rcases hrow with rfl | ⟨ad', h, cs, hh, hc⟩
    · simp [loadCells, loadCellsFrom]
    · cases h
      have := run_loadCells_list (P := P) w ad cs (fun j v hj => hh.cell hin hj)
      have hl := hc.length
      rw [Nat.mul_one] at hl
      rw [hl, (bytes_cells hc).1] at this
      exact this
theorem RL.bts {t e st : TypeId} {by_ c : Nat} {a : Option Addr} {xs : List Int} {r s : Res} (hg : wants ops E o = some true) (hd : o.dst = some d) (hb : Nat.blt d n = true) (ho : o.op = .convert t st x) (ht : slc P t = some (e, 1, by_)) (he : P.underlying e = some (.int .u8)) (hst : P.underlying st = some .string)
    (hx : ev E x = some (.slice a xs.length c)) (hrow : xs = [] ∨ ∃ ad, a = some ad ∧ Row (RInt .u8) 1 r s ad xs) (hin : In r w) (h : RL P n ops Q S rest ((d, .string (strOfNums xs)) :: E) w) : RL P n ops Q S ((false, o) :: rest) E w := fun hS =>
  RL.step hg hd hb (fun ac ha => by
    unfold execOp
    simp only [ho, ha.ev hx]
    simp [run_bts ht he hst hrow hin]) hS h hS
theorem RL.btsT {t e st : TypeId} {by_ c : Nat} {a : Option Addr} {xs : List Int} {r s : Res} (hg : wants ops E o = some true) (hd : o.dst = some d) (hb : Nat.blt d n = true) (ho : o.op = .convert t st x) (ht : slc P t = some (e, 1, by_)) (he : P.underlying e = some (.int .u8)) (hst : P.underlying st = some .string)
    (hx : ev E x = some (.slice a xs.length c)) (hrow : xs = [] ∨ ∃ ad, a = some ad ∧ Row (RInt .u8) 1 r s ad xs) (hin : ∀ w, S w → In r w) (h : RL P n ops Q S rest ((d, .string (strOfNums xs)) :: E) w) : RL P n ops Q S ((true, o) :: rest) E w :=
  RL.take hg hd hb (fun w hS ac ha => by
    unfold execOp
    simp only [ho, ha.ev hx]
    simp [run_bts ht he hst hrow (hin w hS)]) h

/-! ### calls -/
def evs (E : Env) : List Operand → Option (List Value)
  | [] => some []
  | x :: r =>
    match ev E x, evs E r with
    | some v, some l => some (v :: l)
    | _, _ => none
theorem At.evs {a : Act} (ha : At n E a) : ∀ {xs : List Operand} {l : List Value}, evs E xs = some l → xs.map a.eval = l
  | [], l, h => by simpa [Lw.evs] using h
  | x :: r, l, h => by
    simp only [Lw.evs] at h
    split at h
    · rename_i v l' hv hl
      simp only [Option.some.injEq] at h
      subst h
      simp [ha.ev hv, ha.evs hl]
    · cases h
theorem run_callFunc {f : FuncId} {args : Array Value} (h : callable P f = true) (w : World) : (callFunc f args).run P w = .ok (.enter f args) w := by
  unfold callable at h
  split at h
  · rename_i fn hf
    simp only [Bool.and_eq_true, Bool.not_eq_true'] at h
    obtain ⟨h1, h2⟩ := h
    have h3 : fn.body.isNone = false := by cases hb : fn.body <;> simp_all
    simp only [callFunc, Sem.run_bind, run_program, Result.andThen_ok, hf, h2, h3, Bool.false_eq_true, if_false, Sem.run_pure]
  · cases h

theorem RL.call {f : FuncId} {args : Array Operand} {ats : Array TypeId} {l : List Value} {w0 : World} {s0 : Res} {os0 : List Res} {Φ : Res → Res → Value → Prop} (hg : wants ops E o = some true) (hd : o.dst = some d) (hb : Nat.blt d n = true)
    (ho : o.op = .call { callee := .value (.func f), args := args, argTypes := ats }) (hl : evs E args.toList = some l) (hc : callable P f = true) (hct : Calls P f l.toArray w (Post w0 s0 os0 Φ))
    (h : ∀ v s' A w', Le s0 s' → Good w' s' (A :: os0) → Aux w0 w' → Φ s' A v → S w' ∧ RL P n ops Q S rest ((d, v) :: E) w') : RL P n ops Q S ((false, o) :: rest) E w := fun _ ac ha => by
  have hargs : (args.map ac.eval) = l.toArray := by
    rw [← Array.toArray_toList (xs := args), List.map_toArray, ha.evs hl]
  have hev : ac.eval (.func f) = .func (.func f) #[] #[] := rfl
  simp only [RA, ha.wants hg, if_true]
  unfold Oper.wp
  have hrun : (execOp ac.eval o).run P w = .ok (.enter f l.toArray) w := by
    unfold execOp
    simp only [ho]
    simp only [resolve, hargs, hev, Deferred.ofValue, invoke, Sem.run_bind, Sem.run_pure, Result.andThen_ok, Array.append_empty, Array.empty_append, run_callFunc hc]
  rw [hrun]
  simp only [Oper.upon]
  refine hct.mono fun e w' hp => ?_
  obtain ⟨v, s', A, rfl, h1, h2, h3, h4⟩ := hp
  obtain ⟨h5, h6⟩ := h v s' A w' h1 h2 h3 h4
  simp only [hd]
  exact ⟨h5, h6 h5 _ (ha.put hb v)⟩

/-! ### a function's frame -/
def envOf : Nat → List Value → Env
  | _, [] => []
  | k, v :: r => (k, v) :: envOf (k + 1) r
theorem look_envOf : ∀ (l : List Value) (k t : Nat) (v : Value), look (envOf k l) t = some v → k ≤ t ∧ l[t - k]? = some v
  | [], k, t, v, h => by simp [envOf, look] at h
  | u :: r, k, t, v, h => by
    simp only [envOf, look] at h
    by_cases hk : Nat.beq k t = true
    · rw [hk] at h
      have hkt : k = t := Nat.eq_of_beq_eq_true hk
      subst hkt
      simpa using h
    · rw [Bool.not_eq_true] at hk
      rw [hk] at h
      simp only [cond_false] at h
      obtain ⟨h1, h2⟩ := look_envOf r (k + 1) t v h
      refine ⟨by omega, ?_⟩
      rw [show t - k = (t - (k + 1)) + 1 by omega]
      simpa using h2

theorem enter {f : FuncId} {fn : Func} {c : Code} {l : List Value} {R : Ending → World → Prop} {m : Nat} (hf : P.funcs[f]? = some fn) (hb : fn.body = some c) (hm : fn.ntmps = m) (hl : Nat.ble l.length m = true)
    (h : CW P m c (bodyPost P fn R) (envOf 0 l) w) : Calls P f l.toArray w R := by
  refine calls_of_wp hf hb (h _ ⟨?_, rfl, fun t v ht => ?_⟩)
  · have := Nat.le_of_ble_eq_true hl
    simp [hm]; omega
  · obtain ⟨_, h2⟩ := look_envOf l 0 t v ht
    simp only [Nat.sub_zero] at h2
    have hlt := (List.getElem?_eq_some_iff.1 h2).1
    rw [Array.getElem?_append_left (by simpa using hlt)]
    simpa using h2

/-- What the function hands back. -/
def Gives (P : Program) (w : World) (E : Env) : List ResultVar → List Value → Prop
  | [], vs => vs = []
  | .tmp t :: r, vs => ∃ v us, vs = v :: us ∧ look E t = some v ∧ Gives P w E r us
  | .cell t ty :: r, vs => ∃ v us ad, vs = v :: us ∧ look E t = some (.pointer (some ad)) ∧ (loadVar ty ad).run P w = .ok v w ∧ Gives P w E r us
def whole : List Value → Value
  | [v] => v
  | vs => .tuple vs.toArray
def resFn (tmps : Array Value) : ResultVar → Sem Value
  | .tmp t => pure (tmps.getD t undef)
  | .cell c t => do loadVar t (← asAddr (tmps.getD c undef))
theorem results_eq (fn : Func) (tmps : Array Value) : results fn tmps = (do let vs ← fn.results.mapM (resFn tmps); pure (if h : vs.size = 1 then vs[0] else .tuple vs)) := by
  rfl
theorem gives_list {a : Act} (ha : At n E a) (w : World) : ∀ (rs : List ResultVar) (vs : List Value), Gives P w E rs vs → (rs.mapM (resFn a.tmps)).run P w = Result.ok vs w
  | [], vs, h => by rw [show vs = [] from h]; simp
  | .tmp t :: r, vs, h => by
    obtain ⟨v, us, rfl, hv, h'⟩ := h
    have ih := gives_list ha w r us h'
    simp only [List.mapM_cons, resFn, Sem.run_bind, Sem.run_pure, Result.andThen_ok, ha.getD hv]
    rw [ih]
    rfl
  | .cell t ty :: r, vs, h => by
    obtain ⟨v, us, ad, rfl, hv, hl, h'⟩ := h
    have ih := gives_list ha w r us h'
    simp only [List.mapM_cons, resFn, Sem.run_bind, ha.getD hv, asAddr, Sem.run_pure, Result.andThen_ok, hl]
    rw [ih]
    rfl
theorem gives_run {a : Act} (ha : At n E a) (w : World) (fn : Func) {vs : List Value} (h : Gives P w E fn.results.toList vs) : (results fn a.tmps).run P w = .ok (whole vs) w := by
  have hk := gives_list ha w _ vs h
  rw [results_eq, ← Array.toArray_toList (xs := fn.results), List.mapM_toArray]
  rw [Sem.run_bind, Sem.run_map, hk]
  simp only [Result.andThen_ok, Sem.run_pure]
  match vs with
  | [] => simp [whole]
  | [v] => simp [whole]
  | u :: v :: r => simp [whole]

/-- The function's end. -/
theorem ret {fn : Func} {R : Ending → World → Prop} {vs : List Value} (hv : Gives P w E fn.results.toList vs) (h : R (.returned (whole vs)) w) : ∀ a, At n E a → bodyPost P fn R .ret a w :=
  fun _ ha => ⟨ha.dfr, _, gives_run ha w fn hv, h⟩
theorem fall {fn : Func} {R : Ending → World → Prop} {vs : List Value} (hv : Gives P w E fn.results.toList vs) (h : R (.returned (whole vs)) w) : ∀ a, At n E a → bodyPost P fn R .normal a w :=
  fun _ ha => ⟨ha.dfr, _, gives_run ha w fn hv, h⟩
end
end Go.Lw
