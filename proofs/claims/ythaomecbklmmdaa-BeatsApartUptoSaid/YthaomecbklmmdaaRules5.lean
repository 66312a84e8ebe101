/-
  THE WALK ENGINE, part 9: arrays by pointer, complements, 32-bit numbers as bits.
-/
import Derived.Test.YthaomecbklmmdaaRules4
namespace Go.Lw

theorem arr_spec {P : Program} {t e : TypeId} {m sz : Nat} (h : arr P t = some (m, e, sz)) : P.underlying t = some (.array m e) ∧ ∃ i, P.info? e = some i ∧ i.size = sz := by
  unfold arr at h
  split at h
  · rename_i m' e' he
    cases hi : P.info? e' with
    | none => simp [hi] at h
    | some i =>
      simp only [hi, Option.map_some, Option.some.injEq, Prod.mk.injEq] at h
      obtain ⟨rfl, rfl, h3⟩ := h
      exact ⟨he, i, hi, h3⟩
  · cases h

section
variable {P : Program} {n : Nat} {ops : Array Oper} {Q : Exit → Act → World → Prop} {S : World → Prop} {rest : List (Bool × Oper)} {E : Env} {w : World} {o : Oper} {d : Nat} {v : Value}
variable {s A : Res} {os : List Res} {x y : Operand} {T : Bool}

/-- An element of an array, by the array's address. -/
theorem RL.idxA {t e : TypeId} {m sz : Nat} {k : IntKind} {i : Int} {ad : Addr} (hg : wants ops E o = some true) (hd : o.dst = some d) (hb : Nat.blt d n = true) (ho : o.op = .indexAddr t x y) (ht : arr P t = some (m, e, sz))
    (hx : ev E x = some (.pointer (some ad))) (hy : ev E y = some (.int k i)) (h0 : 0 ≤ i) (h1 : i < m) (h : RL P n ops Q S rest ((d, .pointer (some (ad.add (i.toNat * sz)))) :: E) w) : RL P n ops Q S ((T, o) :: rest) E w := by
  refine RL.val hg hd hb (fun w ac ha => ?_) h
  obtain ⟨hu, inf, hi, rfl⟩ := arr_spec ht
  unfold execOp
  simp only [ho, ha.ev hx, ha.ev hy]
  simp [Instr.indexAt, Instr.sureAddr, asIntOf, run_underlying hu, h0, h1, sizeOf, typeInfo, hi]

/-- []byte(xs) of bytes of one's own: the array bears a mark. -/
theorem RL.mark {t e : TypeId} {sz by_ m c b i : Nat} {cs : Array Value} {el : TypeId} (hg : wants ops E o = some true) (hd : o.dst = some d) (hb : Nat.blt d n = true) (ho : o.op = .convert t t x) (ht : slc P t = some (e, sz, by_)) (he : P.underlying e = some (.int .u8))
    (hx : ev E x = some (.slice (some ⟨b, 0, none⟩) m c)) (hG : Good w s os) (hi : os[i]? = some A) (hA : A b = some (.cells cs el (0, 0)))
    (h : ∀ w', Good w' s (os.set i (A.put b (.cells cs el (cs.size, cs.size + 1)))) → Aux w w' → S w' ∧ RL P n ops Q S rest ((d, .slice (some ⟨b, 0, none⟩) m c) :: E) w') : RL P n ops Q S ((false, o) :: rest) E w := by
  have hf := hG.front i hi
  have hwb := hf.1 b _ hA
  obtain ⟨hu, _⟩ := slc_spec ht
  have hsh : w.shape? b = some (el, cs.size) := by simp [World.shape?, hwb]
  have hat : (w.freeze ⟨b, cs.size, none⟩ 1).heap[b]? = some (.cells cs el (cs.size, cs.size + 1)) := by
    simp only [World.freeze, Nat.one_ne_zero, if_false, Array.getElem?_modify, if_true, hwb, Option.map_some, beq_self_eq_true]
  have hot : ∀ k, k < w.heap.size → k ≠ b → (w.freeze ⟨b, cs.size, none⟩ 1).heap[k]? = w.heap[k]? := fun k _ hk => by
    simp [World.freeze, Array.getElem?_modify, Ne.symm hk]
  obtain ⟨h1, h2⟩ := h (w.freeze ⟨b, cs.size, none⟩ 1) (Good.back i hi (hf.write hA hat hot)) ⟨rfl, rfl, rfl, by simp [World.freeze]⟩
  refine RL.step hg hd hb (fun ac ha => ?_) h1 h2
  unfold execOp
  simp only [ho, ha.ev hx]
  simp [convert, run_underlying hu, run_underlying he, markStringish, hsh]

/-- A call's end: a value; memory as it was, or more of it that nobody speaks of. -/
def PostV (w : World) (s : Res) (os : List Res) (Φ : Value → Prop) : Ending → World → Prop := fun e w' => ∃ v, e = .returned v ∧ Good w' s os ∧ Aux w w' ∧ Φ v
theorem PostV.mk {w w' : World} {s : Res} {os : List Res} {Φ : Value → Prop} {v : Value} (hg : Good w' s os) (ha : Aux w w') (h : Φ v) : PostV w s os Φ (.returned v) w' := ⟨v, rfl, hg, ha, h⟩
theorem RL.callV {f : FuncId} {args : Array Operand} {ats : Array TypeId} {l : List Value} {w0 : World} {s0 : Res} {os0 : List Res} {Φ : Value → Prop} (hg : wants ops E o = some true) (hd : o.dst = some d) (hb : Nat.blt d n = true)
    (ho : o.op = .call { callee := .value (.func f), args := args, argTypes := ats }) (hl : evs E args.toList = some l) (hc : callable P f = true) (hct : Calls P f l.toArray w (PostV w0 s0 os0 Φ))
    (h : ∀ v w', Good w' s0 os0 → Aux w0 w' → Φ v → S w' ∧ RL P n ops Q S rest ((d, v) :: E) w') : RL P n ops Q S ((false, o) :: rest) E w :=
  RL.call (w0 := w0) (s0 := s0) (os0 := os0) (Φ := fun s' A v => s' = s0 ∧ A = Res.nil ∧ Φ v) hg hd hb ho hl hc
    (hct.mono fun e w' ⟨v, he, hgd, hax, hv⟩ => ⟨v, s0, Res.nil, he, Le.refl _, hgd.nil, hax, rfl, rfl, hv⟩)
    (fun v s' A w' _ hgd hax ⟨hs, hA, hv⟩ => by subst hs; subst hA; exact h v w' hgd.drop hax hv)

/-- A call, whatever is known of its end. -/
theorem RL.callG {f : FuncId} {args : Array Operand} {ats : Array TypeId} {l : List Value} {R : Ending → World → Prop} (hg : wants ops E o = some true) (hd : o.dst = some d) (hb : Nat.blt d n = true)
    (ho : o.op = .call { callee := .value (.func f), args := args, argTypes := ats }) (hl : evs E args.toList = some l) (hc : callable P f = true) (hct : Calls P f l.toArray w R)
    (h : ∀ e w', R e w' → ∃ v, e = .returned v ∧ S w' ∧ RL P n ops Q S rest ((d, v) :: E) w') : RL P n ops Q S ((false, o) :: rest) E w := fun _ ac ha => by
  have hargs : (args.map ac.eval) = l.toArray := by
    rw [← Array.toArray_toList (xs := args), List.map_toArray, ha.evs hl]
  have hev : ac.eval (.func f) = .func (.func f) #[] #[] := rfl
  simp only [RA, ha.wants hg, if_true]
  unfold Oper.wp
  have hrun : (execOp ac.eval o).run P w = .ok (.enter f l.toArray) w := by
    unfold execOp
    simp only [ho]
    simp only [resolve, hargs, hev, Deferred.ofValue, invoke, Sem.run_bind, Sem.run_pure, Result.andThen_ok, Array.append_empty, Array.empty_append, run_callFunc hc]
  rw [hrun]
  simp only [Oper.upon]
  refine hct.mono fun e w' hp => ?_
  obtain ⟨v, rfl, h5, h6⟩ := h e w' hp
  simp only [hd]
  exact ⟨h5, h6 h5 _ (ha.put hb v)⟩
/-- Two pieces of one's own at the end. -/
def Post2 (w : World) (s : Res) (os : List Res) (Φ : Res → Res → Res → Value → Prop) : Ending → World → Prop := fun e w' =>
  ∃ v s' B A, e = .returned v ∧ Le s s' ∧ Good w' s' (B :: A :: os) ∧ Aux w w' ∧ Φ s' B A v
theorem Post2.mk {w w' : World} {s s' A B : Res} {os : List Res} {Φ : Res → Res → Res → Value → Prop} {v : Value} (hl : Le s s') (hg : Good w' s' (B :: A :: os)) (ha : Aux w w') (h : Φ s' B A v) : Post2 w s os Φ (.returned v) w' :=
  ⟨v, s', B, A, rfl, hl, hg, ha, h⟩

theorem RL.compl {k : IntKind} {a : Int} {t : TypeId} (hg : wants ops E o = some true) (hd : o.dst = some d) (hb : Nat.blt d n = true) (ho : o.op = .unOp .xor t x) (hx : ev E x = some (.int k a))
    (h : RL P n ops Q S rest ((d, .int k (k.wrap ((BitVec.ofInt k.bits (if k.signed then -1 else k.max) ^^^ BitVec.ofInt k.bits a).toNat))) :: E) w) : RL P n ops Q S ((T, o) :: rest) E w := by
  refine RL.val hg hd hb (fun w ac ha => ?_) h
  unfold execOp
  simp only [ho, ha.ev hx]
  simp [Op.unary, Op.intBits]
end

theorem Own.le_cap {α : Type} {R : Res → List Value → α → Prop} {sz c : Nat} {el : TypeId} {s A : Res} {a : Option Addr} {xs : List α} (h : Own R sz el s A a c xs) : xs.length ≤ c := by
  rcases h with ⟨_, rfl, rfl⟩ | ⟨_, _, _, _, h, _⟩
  · simp
  · exact h
/-- An element of one's own slice is written. -/
theorem Own.set {α : Type} {R : Res → List Value → α → Prop} {sz g c i : Nat} {el : TypeId} {s A : Res} {xs : List α} {cs : Array Value} {vs : List Value} {x : α} (h : Own R sz el s A (some ⟨g, 0, none⟩) c xs) (hA : A g = some (.cells cs el (0, 0)))
    (hi : i < xs.length) (hv : vs.length = sz) (hx : R s vs x) :
    Own R sz el s (A.put g (.cells (cs.toList.take (i * sz) ++ vs ++ cs.toList.drop (i * sz + sz)).toArray el (0, 0))) (some ⟨g, 0, none⟩) c (xs.set i x) := by
  rcases h with ⟨h, _⟩ | ⟨g', cs', h, hg, hl, hc, hcs, hch⟩
  · cases h
  · cases h
    rw [hA] at hg
    cases hg
    have hle : xs.length * sz ≤ cs.size := by rw [hcs]; exact Nat.mul_le_mul_right _ hl
    have hi' : i * sz + sz ≤ xs.length * sz := by
      have := Nat.mul_le_mul_right sz (Nat.succ_le_of_lt hi)
      rwa [Nat.succ_mul] at this
    refine .inr ⟨g, _, rfl, put_same _ _ _, by simpa using hl, hc, ?_, ?_⟩
    · rw [← hcs]
      simp only [List.size_toArray, List.length_append, List.length_take, List.length_drop, Array.length_toList, hv]
      omega
    · have := Chunks.set hch hi hv hx
      rw [List.length_set]
      have e : (cs.toList.take (i * sz) ++ vs ++ cs.toList.drop (i * sz + sz)).take (xs.length * sz) = (cs.toList.take (xs.length * sz)).take (i * sz) ++ vs ++ (cs.toList.take (xs.length * sz)).drop (i * sz + sz) := by
        have h1 : (cs.toList.take (xs.length * sz)).take (i * sz) = cs.toList.take (i * sz) := by rw [List.take_take]; congr 1; omega
        have h2 : (cs.toList.take (i * sz) ++ vs).length = i * sz + sz := by simp [hv]; omega
        rw [h1, List.take_append, List.take_of_length_le (by rw [h2]; exact hi'), h2]
        congr 1
        rw [List.drop_take]
      simp only [e]
      exact this

/-! ### 32 bits -/
abbrev u32 (c : BitVec 32) : Value := .int .u32 c.toNat
theorem wrap_u32 (c : BitVec 32) : IntKind.u32.wrap c.toNat = c.toNat := by
  have := c.isLt
  simp [IntKind.wrap, IntKind.bits, IntKind.signed]; omega
theorem ofInt32 (c : BitVec 32) : BitVec.ofInt 32 (c.toNat : Int) = c := by
  rw [BitVec.ofInt_natCast, BitVec.ofNat_toNat]; simp
theorem xor32 (a b : BitVec 32) : Value.int .u32 (IntKind.u32.wrap ((BitVec.ofInt IntKind.u32.bits (a.toNat : Int) ^^^ BitVec.ofInt IntKind.u32.bits (b.toNat : Int)).toNat)) = u32 (a ^^^ b) := by
  change Value.int .u32 (IntKind.u32.wrap ((BitVec.ofInt 32 _ ^^^ BitVec.ofInt 32 _).toNat)) = _
  rw [ofInt32, ofInt32, wrap_u32]
theorem and32 (a b : BitVec 32) : Value.int .u32 (IntKind.u32.wrap ((BitVec.ofInt IntKind.u32.bits (a.toNat : Int) &&& BitVec.ofInt IntKind.u32.bits (b.toNat : Int)).toNat)) = u32 (a &&& b) := by
  change Value.int .u32 (IntKind.u32.wrap ((BitVec.ofInt 32 _ &&& BitVec.ofInt 32 _).toNat)) = _
  rw [ofInt32, ofInt32, wrap_u32]
theorem or32 (a b : BitVec 32) : Value.int .u32 (IntKind.u32.wrap ((BitVec.ofInt IntKind.u32.bits (a.toNat : Int) ||| BitVec.ofInt IntKind.u32.bits (b.toNat : Int)).toNat)) = u32 (a ||| b) := by
  change Value.int .u32 (IntKind.u32.wrap ((BitVec.ofInt 32 _ ||| BitVec.ofInt 32 _).toNat)) = _
  rw [ofInt32, ofInt32, wrap_u32]
theorem xor32i (a : BitVec 32) (b : Int) : Value.int .u32 (IntKind.u32.wrap ((BitVec.ofInt IntKind.u32.bits (a.toNat : Int) ^^^ BitVec.ofInt IntKind.u32.bits b).toNat)) = u32 (a ^^^ BitVec.ofInt 32 b) := by
  change Value.int .u32 (IntKind.u32.wrap ((BitVec.ofInt 32 _ ^^^ BitVec.ofInt 32 _).toNat)) = _
  rw [ofInt32, wrap_u32]
theorem and32i (a : BitVec 32) (b : Int) : Value.int .u32 (IntKind.u32.wrap ((BitVec.ofInt IntKind.u32.bits (a.toNat : Int) &&& BitVec.ofInt IntKind.u32.bits b).toNat)) = u32 (a &&& BitVec.ofInt 32 b) := by
  change Value.int .u32 (IntKind.u32.wrap ((BitVec.ofInt 32 _ &&& BitVec.ofInt 32 _).toNat)) = _
  rw [ofInt32, wrap_u32]
theorem shr32n (a : BitVec 32) (m : Nat) : (a.toNat : Int) / 2 ^ m = ((a >>> m).toNat : Int) := by
  rw [BitVec.toNat_ushiftRight, Nat.shiftRight_eq_div_pow]
  simp
theorem shr32 (a : BitVec 32) (m : Nat) : Value.int .u32 ((a.toNat : Int) / 2 ^ m) = u32 (a >>> m) := by
  rw [u32, BitVec.toNat_ushiftRight, Nat.shiftRight_eq_div_pow]
  simp
theorem u32_ofInt (v : Int) (h : rng .u32 v) : Value.int .u32 v = u32 (BitVec.ofInt 32 v) := by
  simp only [rng] at h
  rw [u32, BitVec.toNat_ofInt]
  congr 1
  omega
theorem u32_num (m : Nat) (h : m < 4294967296) : Value.int .u32 (m : Int) = u32 (BitVec.ofNat 32 m) := by
  rw [u32, BitVec.toNat_ofNat, Nat.mod_eq_of_lt h]
theorem compl32 (a : BitVec 32) : Value.int .u32 (IntKind.u32.wrap ((BitVec.ofInt IntKind.u32.bits (if IntKind.u32.signed then -1 else IntKind.u32.max) ^^^ BitVec.ofInt IntKind.u32.bits (a.toNat : Int)).toNat)) = u32 (~~~a) := by
  change Value.int .u32 (IntKind.u32.wrap ((BitVec.ofInt 32 _ ^^^ BitVec.ofInt 32 _).toNat)) = _
  have e : BitVec.ofInt 32 (if IntKind.u32.signed then -1 else IntKind.u32.max) = BitVec.allOnes 32 := by decide
  rw [e, ofInt32, wrap_u32, BitVec.allOnes_xor]
end Go.Lw
