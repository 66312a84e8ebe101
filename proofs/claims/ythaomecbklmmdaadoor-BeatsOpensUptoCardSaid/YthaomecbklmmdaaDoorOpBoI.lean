/-
  Rows of bytes that a law writes into: what stays.
-/
import Derived.Test.YthaomecbklmmdaaDoorOpBoR
import Derived.Test.YthaomecbklmmdaaDoorOpBoS
import Derived.Test.YthaomecbklmmdaaDoorOpBoE
namespace Go.Lw
open Go.Proofs

/-- A row of n bytes, its array of c, in the piece D. -/
def UR (D : Res) (a : Option Addr) (c n : Nat) : Prop := ∃ g cs, a = some ⟨g, 0, none⟩ ∧ D g = some (.cells cs 5 (0, 0)) ∧ cs.size = c ∧ n ≤ c ∧ c ≤ maxLen ∧ ∀ i, i < n → ∃ v, rng .u8 v ∧ cs[i]? = some (.int .u8 v)
theorem UR.own {D s : Res} {a : Option Addr} {c n : Nat} (h : UR D a c n) : ∃ zs : List Int, zs.length = n ∧ Own (RInt .u8) 1 5 s D a c zs := by
  obtain ⟨g, cs, rfl, h1, h2, h3, h4, h5⟩ := h
  have hex : ∀ k, k ≤ n → ∃ zs : List Int, zs.length = k ∧ (∀ z ∈ zs, rng .u8 z) ∧ cs.toList.take k = zs.map (Value.int .u8) := by
    intro k
    induction k with
    | zero => exact fun _ => ⟨[], rfl, by simp, by simp⟩
    | succ k ih =>
      intro hk
      obtain ⟨zs, z1, z2, z3⟩ := ih (by omega)
      obtain ⟨v, hv, hc⟩ := h5 k (by omega)
      refine ⟨zs ++ [v], by simp [z1], fun z hz => ?_, ?_⟩
      · rcases List.mem_append.1 hz with hz | hz
        · exact z2 z hz
        · simp at hz; subst hz; exact hv
      · have hkl : k < cs.toList.length := by simp only [Array.length_toList]; omega
        rw [List.take_succ_eq_append_getElem hkl, z3, List.map_append]
        have : cs.toList[k] = .int .u8 v := by
          have hx : cs.toList[k]? = some (.int .u8 v) := by simpa using hc
          exact (List.getElem?_eq_some_iff.1 hx).2
        rw [this]; rfl
  obtain ⟨zs, z1, z2, z3⟩ := hex n (Nat.le_refl _)
  exact ⟨zs, z1, .inr ⟨g, cs, rfl, h1, by omega, h4, by omega, by rw [z1, Nat.mul_one, z3]; exact ints_chunks z2⟩⟩
/-- A byte of one row is written: all rows stay rows. -/
theorem UR.put {D : Res} {a : Option Addr} {c n g j : Nat} {cs : Array Value} {v : Int} (h : UR D a c n) (hg : D g = some (.cells cs 5 (0, 0))) (hj : j < cs.size) (hv : rng .u8 v) :
    UR (D.put g (.cells (cs.toList.take j ++ [Value.int .u8 v] ++ cs.toList.drop (j + 1)).toArray 5 (0, 0))) a c n := by
  obtain ⟨g', cs', rfl, h1, h2, h3, h4, h5⟩ := h
  by_cases e : g' = g
  · subst e
    obtain ⟨rfl⟩ : cs' = cs := by rw [h1] at hg; cases hg; rfl
    refine ⟨g', _, rfl, put_same _ _ _, ?_, h3, h4, fun i hi => ?_⟩
    · simp only [List.size_toArray, List.length_append, List.length_take, List.length_drop, Array.length_toList, List.length_singleton]; omega
    · by_cases ei : i = j
      · subst ei
        refine ⟨v, hv, ?_⟩
        simp only [List.getElem?_toArray]
        rw [List.append_assoc, List.getElem?_append_right (by simp only [List.length_take, Array.length_toList]; omega)]
        simp only [List.length_take, Array.length_toList]
        rw [show i - min i cs.size = 0 by omega]; rfl
      · obtain ⟨v', hv', hc⟩ := h5 i hi
        refine ⟨v', hv', ?_⟩
        simp only [List.getElem?_toArray]
        rcases Nat.lt_or_ge i j with hlt | hge
        · rw [List.append_assoc, List.getElem?_append_left (by simp only [List.length_take, Array.length_toList]; omega), List.getElem?_take, if_pos hlt]
          simpa using hc
        · rw [List.getElem?_append_right (by simp only [List.length_append, List.length_take, Array.length_toList, List.length_singleton]; omega), List.getElem?_drop]
          simp only [List.length_append, List.length_take, Array.length_toList, List.length_singleton]
          rw [show j + 1 + (i - (min j cs.size + 1)) = i by omega]
          simpa using hc
  · exact ⟨g', cs', rfl, by simpa [Res.put, e] using h1, h2, h3, h4, h5⟩
/-- A message's cells, and its row of bytes in D. -/
def RFlat (D : Res) : Res → List Value → Wire → Prop := fun _ vs x => ∃ y, vs = u64 x.group :: msgV x.msg y ∧ (x.msg.data = [] ∨ UR D y.da y.dc x.msg.data.length)
theorem RFlat.of {s0 s D : Res} {vs : List Value} {x : Wire} (h : RWireF s0 s vs x) (hD : ∀ b o, s0 b = none → s b = some o → D b = some o) : RFlat D Res.nil vs x := by
  obtain ⟨y, h0, _, h1, h2⟩ := h
  refine ⟨y, h0, ?_⟩
  rcases h2 with h2 | ⟨b, cs, h3, h4, h5, h6⟩
  · exact .inl h2
  · have hI := h1.data
    rcases hI.2.2 with hI0 | ⟨ad, ha, vs', ⟨cs', el, fr, hb, hsp, hv⟩, hc⟩
    · exact .inl hI0
    · right
      rw [h3] at ha
      cases ha
      have hb : s b = some (.cells cs' el fr) := hb
      rw [h5] at hb
      cases hb
      obtain ⟨rfl, hr⟩ := hc.rng
      refine ⟨b, cs, h3, hD _ _ h4 h5, h6, hI.1, hI.2.1, fun i hi => ⟨x.msg.data[i], hr _ (List.getElem_mem hi), ?_⟩⟩
      have := hv i (.int .u8 x.msg.data[i]) (by simp [hi])
      simpa using this
theorem Chunks.imp2 {α : Type} {R R' : Res → List Value → α → Prop} {sz : Nat} {s s' : Res} (h : ∀ vs x, R s vs x → R' s' vs x) : ∀ {cs : List Value} {xs : List α}, Chunks R sz s cs xs → Chunks R' sz s' cs xs
  | _, [], hc => hc
  | _, _ :: _, ⟨vs, rest, h1, h2, h3, h4⟩ => ⟨vs, rest, h1, h2, h _ _ h3, Chunks.imp2 h h4⟩
theorem Own.imp2 {α : Type} {R R' : Res → List Value → α → Prop} {sz c : Nat} {el : TypeId} {s s' A : Res} {a : Option Addr} {xs : List α} (h : ∀ vs x, R s vs x → R' s' vs x) (ho : Own R sz el s A a c xs) : Own R' sz el s' A a c xs := by
  rcases ho with ho | ⟨g, cs, h1, h2, h3, h4, h5, h6⟩
  · exact .inl ho
  · exact .inr ⟨g, cs, h1, h2, h3, h4, h5, h6.imp2 h⟩
theorem RFlat.up (D : Res) : Up (RFlat D) := fun _ _ _ _ _ h => h
/-- s without what r has. -/
def Res.without (s r : Res) : Res := fun b => match r b with | some _ => none | none => s b
theorem Res.without_le (s r : Res) : Le (s.without r) s := fun b x hx => by
  unfold Res.without at hx
  cases hr : r b with
  | some y => rw [hr] at hx; cases hx
  | none => rw [hr] at hx; exact hx
theorem Res.without_some {s r : Res} {b : Nat} {x : Obj} (h : s b = some x) (hr : r b = none) : s.without r b = some x := by
  unfold Res.without; rw [hr]; exact h
theorem Good.back_own {w : World} {s r : Res} {os : List Res} (h : Good w s os) (hl : Le r s) : Good w (s.without r) (r :: os) := h.unshare hl
open Go.RowKit in
theorem RL.addw {P : Program} {n : Nat} {ops : Array Oper} {Q : Exit → Act → World → Prop} {S : World → Prop} {rest : List (Bool × Oper)} {E : Env} {w : World} {o : Oper} {d : Nat} {x y : Operand} {T : Bool} {k : IntKind} {a b : Int} {t yt : TypeId}
    (hg : wants ops E o = some true) (hd : o.dst = some d) (hb : Nat.blt d n = true) (ho : o.op = .binOp .add t x y yt) (hx : ev E x = some (.int k a)) (hy : ev E y = some (.int k b))
    (h : RL P n ops Q S rest ((d, .int k (k.wrap (a + b))) :: E) w) : RL P n ops Q S ((T, o) :: rest) E w :=
  RL.val hg hd hb (run_pure_binop ho hx hy fun w => by rw [run_intOp (v := .int k (k.wrap (a + b))) w (by simp [intOp])]) h
theorem rng_wrap8 (v : Int) : rng .u8 (IntKind.u8.wrap v) := by
  rw [wrap_u8]; simp only [rng]; omega
end Go.Lw
