/-
  THE WALK ENGINE, part 8: nil slices, signs, texts to bytes, marks.
-/
import Derived.Test.YthaomecbklmmdaaText
import Derived.Lib.ConvBytes
import Derived.WalkSpells
namespace Go.Lw

section
variable {P : Program} {n : Nat} {ops : Array Oper} {Q : Exit → Act → World → Prop} {S : World → Prop} {rest : List (Bool × Oper)} {E : Env} {w : World} {o : Oper} {d : Nat} {v : Value}
variable {s A : Res} {os : List Res} {x y : Operand} {T : Bool}

theorem run_eqGuard_slice (P : Program) (op : BinOp) (t : TypeId) (x y : Operand) (a a' : Option Addr) (n c n' c' : Nat) (w : World) : (eqGuard op t x y (.slice a n c) (.slice a' n' c')).run P w = .ok () w := by
  unfold eqGuard
  cases op <;> rfl
/-- xs == nil -/
theorem RL.nilEq {t e : TypeId} {yt : TypeId} {sz by_ m c m' c' : Nat} {a : Option Addr} (hg : wants ops E o = some true) (hd : o.dst = some d) (hb : Nat.blt d n = true) (ho : o.op = .binOp .eql t x y yt) (ht : slc P t = some (e, sz, by_))
    (hx : ev E x = some (.slice a m c)) (hy : ev E y = some (.slice none m' c')) (h : RL P n ops Q S rest ((d, .bool a.isNone) :: E) w) : RL P n ops Q S ((T, o) :: rest) E w := by
  refine RL.val hg hd hb (fun w ac ha => ?_) h
  unfold execOp
  simp only [ho, ha.ev hx, ha.ev hy, Sem.run_bind, run_eqGuard_slice, Result.andThen_ok]
  have := Lib.run_equalIn_slice_nil (P := P) w 9999 t e a m c m' c' (slc_spec ht).1
  simp [binOp, Op.equal, Op.maxDepth, this]
theorem RL.nilNe {t e : TypeId} {yt : TypeId} {sz by_ m c m' c' : Nat} {a : Option Addr} (hg : wants ops E o = some true) (hd : o.dst = some d) (hb : Nat.blt d n = true) (ho : o.op = .binOp .neq t x y yt) (ht : slc P t = some (e, sz, by_))
    (hx : ev E x = some (.slice a m c)) (hy : ev E y = some (.slice none m' c')) (h : RL P n ops Q S rest ((d, .bool (!a.isNone)) :: E) w) : RL P n ops Q S ((T, o) :: rest) E w := by
  refine RL.val hg hd hb (fun w ac ha => ?_) h
  unfold execOp
  simp only [ho, ha.ev hx, ha.ev hy, Sem.run_bind, run_eqGuard_slice, Result.andThen_ok]
  simp [run_neq_slice_nil_any (P := P) w t e a m c m' c' (slc_spec ht).1]

theorem RL.neg {k : IntKind} {a : Int} {t : TypeId} (hg : wants ops E o = some true) (hd : o.dst = some d) (hb : Nat.blt d n = true) (ho : o.op = .unOp .neg t x) (hx : ev E x = some (.int k a)) (hr : rng k (-a)) (h : RL P n ops Q S rest ((d, .int k (-a)) :: E) w) : RL P n ops Q S ((T, o) :: rest) E w := by
  refine RL.val hg hd hb (fun w ac ha => ?_) h
  unfold execOp
  simp only [ho, ha.ev hx]
  simp [Op.unary, Op.intArith, hr.wrap]

/-- []byte(s) -/
theorem RL.stb {src t e : TypeId} {sz by_ : Nat} {b : ByteArray} (hg : wants ops E o = some true) (hd : o.dst = some d) (hb : Nat.blt d n = true) (ho : o.op = .convert src t x) (hs : P.underlying src = some .string) (ht : slc P t = some (e, sz, by_)) (he : P.underlying e = some (.int .u8))
    (hx : ev E x = some (.string b)) (hsz : b.size ≤ maxLen) (hG : Good w s os)
    (h : ∀ a c s' w', Good w' s' os → Le s s' → Aux w w' → Imm (RInt .u8) 1 s' (some a) c (nums b) → S w' ∧ RL P n ops Q S rest ((d, .slice (some a) (nums b).length c) :: E) w') : RL P n ops Q S ((false, o) :: rest) E w := by
  have hrun := Lib.run_convert_string_bytes (P := P) w src t e b hs (slc_spec ht).1 he
  have hsz' : (Lib.bytesWorld w e b).heap.size = w.heap.size + 1 := Lib.bytesWorld_size w e b
  let x0 : Obj := .cells (Lib.bytesCells w e b) e ((Lib.bytesCells w e b).size, (Lib.bytesCells w e b).size + 1)
  have hk : ∀ k, k < w.heap.size → (Lib.bytesWorld w e b).heap[k]? = w.heap[k]? := fun k hk => Lib.bytesWorld_at_old w e b k hk
  have hfar : ∀ q, In q w → Apart (Res.one w.heap.size x0) q := fun q hq k hk0 => by
    by_cases hkb : k = w.heap.size
    · subst hkb
      cases hqb : q w.heap.size with
      | none => rfl
      | some y => exact absurd (hq.lt (by rw [hqb]; simp)) (Nat.lt_irrefl _)
    · simp [Res.one, hkb] at hk0
  have hgood : Good (Lib.bytesWorld w e b) s (Res.one w.heap.size x0 :: os) := by
    refine ⟨fun k y hy => ?_, hfar s hG.sh, fun q hq => hfar q (hG.mem hq), hG.keep hk⟩
    by_cases hkb : k = w.heap.size
    · subst hkb
      simp [Res.one] at hy
      subst hy
      exact Lib.bytesWorld_at_new w e b
    · simp [Res.one, hkb] at hy
  have hax : Aux w (Lib.bytesWorld w e b) := ⟨rfl, rfl, rfl, by rw [hsz']; omega⟩
  have hap := hgood.2.1
  have hn := nums_length b
  have himm : Imm (RInt .u8) 1 (s.join (Res.one w.heap.size x0)) (some ⟨w.heap.size, 0, none⟩) (grownCap w b.size 0 e) (nums b) := by
    refine ⟨by rw [hn]; exact grownCap_ge w b.size 0 e, grownCap_le_maxLen w _ 0 e hsz, .inr ⟨_, rfl, _, ?_, nums_chunks b _⟩⟩
    refine Holds.le (r := Res.one w.heap.size x0) ⟨Lib.bytesCells w e b, e, ((Lib.bytesCells w e b).size, (Lib.bytesCells w e b).size + 1), by simp [Res.one, x0], rfl, fun j u hu => ?_⟩ (Res.le_join_right hap.symm)
    have hlt : j < b.data.size := by
      have := (List.getElem?_eq_some_iff.1 hu).1
      simpa [nums] using this
    simp only [nums, List.map_map, List.getElem?_map, Array.getElem?_toList] at hu
    simp only [Lib.bytesCells, Nat.zero_add]
    rw [Array.getElem?_append_left (by simpa using hlt), Array.getElem?_map]
    exact hu
  obtain ⟨h1, h2⟩ := h _ _ _ _ hgood.share (Res.le_join_left _ _) hax himm
  refine RL.step hg hd hb (fun ac ha => ?_) h1 h2
  unfold execOp
  simp only [ho, ha.ev hx, hn]
  simp [hrun]

/-- A new block, shared from the start. -/
theorem boxed {b : Nat} {cs : Array Value} {el : TypeId} {fr : Nat × Nat} (h : Good w s (Res.one b (.cells cs el fr) :: os)) : ∃ s1, Good w s1 os ∧ Le s s1 ∧ Holds s1 ⟨b, 0, none⟩ cs.toList :=
  ⟨_, h.share, Res.le_join_left _ _, (show Holds (Res.one b (.cells cs el fr)) ⟨b, 0, none⟩ cs.toList from ⟨cs, el, fr, by simp [Res.one], rfl, fun j u hj => by simpa using hj⟩).le (Res.le_join_right h.2.1.symm)⟩
/-- A piece that is let go, shared from now on. -/
theorem Good.letgo (h : Good w s (A :: os)) : ∃ s1, Good w s1 os ∧ Le s s1 ∧ Le A s1 := ⟨_, h.share, Res.le_join_left _ _, Res.le_join_right h.2.1.symm⟩
end

/-! ### signs in a number -/
theorem wrap_u64 (v : Int) : IntKind.u64.wrap v = v % 18446744073709551616 := by simp [IntKind.wrap, IntKind.bits, IntKind.signed]
theorem zig (v : Int) (hv : rng .i64 v) : IntKind.u64.wrap ((BitVec.ofInt IntKind.u64.bits (IntKind.u64.wrap (IntKind.u64.wrap v * 2 ^ 1)) ^^^ BitVec.ofInt IntKind.u64.bits (IntKind.u64.wrap (v / 2 ^ 63))).toNat) = if v < 0 then -2 * v - 1 else 2 * v := by
  simp only [rng] at hv
  change IntKind.u64.wrap ((BitVec.ofInt 64 _ ^^^ BitVec.ofInt 64 _).toNat) = _
  simp only [wrap_u64]
  by_cases h : v < 0
  · rw [if_pos h]
    have e1 : v / 2 ^ 63 % 18446744073709551616 = 18446744073709551615 := by omega
    have e2 : v % 18446744073709551616 * 2 ^ 1 % 18446744073709551616 = 18446744073709551616 + 2 * v := by omega
    rw [e1, e2]
    have e3 : BitVec.ofInt 64 18446744073709551615 = BitVec.allOnes 64 := by decide
    rw [e3, BitVec.xor_allOnes, BitVec.toNat_not, BitVec.toNat_ofInt]
    omega
  · rw [if_neg h]
    have e1 : v / 2 ^ 63 % 18446744073709551616 = 0 := by omega
    have e2 : v % 18446744073709551616 * 2 ^ 1 % 18446744073709551616 = 2 * v := by omega
    rw [e1, e2]
    have e3 : BitVec.ofInt 64 0 = 0#64 := by decide
    rw [e3, BitVec.xor_zero, BitVec.toNat_ofInt]
    omega
end Go.Lw
