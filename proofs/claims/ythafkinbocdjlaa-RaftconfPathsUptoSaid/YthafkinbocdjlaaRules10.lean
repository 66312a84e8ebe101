/-
  THE WALK ENGINE, part 15: copy, clear, cap, parts of slices by value, zeros appended; calls whose result nobody takes.
-/
import Derived.Test.YthafkinbocdjlaaPieces
namespace Go.Lw
open Go.RowKit
section
variable {P : Program} {n : Nat} {ops : Array Oper} {Q : Exit → Act → World → Prop} {S : World → Prop} {rest : List (Bool × Oper)} {E : Env} {w : World} {o : Oper} {d : Nat} {v : Value}
variable {s A : Res} {os : List Res} {x y : Operand} {T : Bool}

/-- An operation whose value nobody takes. -/
theorem RL.drop {w' : World} (hg : wants ops E o = some true) (hd : o.dst = none) (hr : ∀ a, At n E a → (execOp a.eval o).run P w = .ok (.value v) w') (hS : S w') (h : RL P n ops Q S rest E w') :
    RL P n ops Q S ((false, o) :: rest) E w := fun _ a ha => by
  simp only [RA, ha.wants hg, if_true]
  unfold Oper.wp
  rw [hr a ha]
  simp only [Oper.upon, hd, Act.put]
  exact ⟨hS, h hS _ ha⟩

theorem RL.cap {t : TypeId} {e : TypeId} {sz by_ m c : Nat} {a : Option Addr} (hg : wants ops E o = some true) (hd : o.dst = some d) (hb : Nat.blt d n = true)
    (ho : o.op = .call { callee := .builtin .cap, args := #[x], argTypes := #[t] }) (ht : slc P t = some (e, sz, by_)) (hx : ev E x = some (.slice a m c)) (h : RL P n ops Q S rest ((d, .int .i64 c) :: E) w) : RL P n ops Q S ((T, o) :: rest) E w := by
  refine RL.val hg hd hb (fun w ac ha => ?_) h
  unfold execOp
  simp only [ho]
  simp [resolve, invoke, builtin, Builtin.cap_, ha.ev hx, run_underlying (slc_spec ht).1, goInt]

/-- x[lo:hi], by value. -/
theorem RL.cut {t e : TypeId} {sz by_ m c : Nat} {a : Option Addr} {lo hi : Option Operand} (l h : Nat) (hg : wants ops E o = some true) (hd : o.dst = some d) (hb : Nat.blt d n = true)
    (ho : o.op = .slice t x lo hi none) (ht : slc P t = some (e, sz, by_)) (hx : ev E x = some (.slice a m c))
    (hlo : (lo = none ∧ l = 0) ∨ ∃ k z, lo = some z ∧ ev E z = some (.int k (l : Nat))) (hhi : (hi = none ∧ h = m) ∨ ∃ k z, hi = some z ∧ ev E z = some (.int k (h : Nat)))
    (h1 : l ≤ h) (h2 : h ≤ c) (hK : RL P n ops Q S rest ((d, .slice (if c = l then a else a.map (·.add (l * sz))) (h - l) (c - l)) :: E) w) : RL P n ops Q S ((T, o) :: rest) E w := by
  refine RL.val hg hd hb (fun w ac ha => ?_) hK
  obtain ⟨hu, inf, hi', rfl, _⟩ := slc_spec ht
  have hsz : ∀ w : World, (sizeOf e).run P w = .ok inf.size w := fun w => by simp [sizeOf, typeInfo, hi']
  have hl' : ∀ k (y : Nat) code, l ≤ y → (Instr.sliceBound (.int k (l : Nat)) y code).run P w = .ok l w := fun k y code hy => by
    have := run_sliceBound (P := P) w k (l : Nat) y code (by omega) (by omega); simpa using this
  have hh' : ∀ k (y : Nat) code, h ≤ y → (Instr.sliceBound (.int k (h : Nat)) y code).run P w = .ok h w := fun k y code hy => by
    have := run_sliceBound (P := P) w k (h : Nat) y code (by omega) (by omega); simpa using this
  unfold execOp
  simp only [ho, ha.ev hx]
  rcases hlo with ⟨rfl, rfl⟩ | ⟨kl, zl, rfl, hzl⟩ <;> rcases hhi with ⟨rfl, rfl⟩ | ⟨kh, zh, rfl, hzh⟩
  · simp [Instr.sliceAt, Instr.slice, Instr.sliceBounds, run_underlying hu, hsz]
  · simp [Instr.sliceAt, Instr.slice, Instr.sliceBounds, run_underlying hu, hsz, ha.ev hzh, hh' kh c .sliceAcap (by omega)]
  · simp [Instr.sliceAt, Instr.slice, Instr.sliceBounds, run_underlying hu, hsz, ha.ev hzl, hl' kl h .sliceB (by omega)]
  · simp [Instr.sliceAt, Instr.slice, Instr.sliceBounds, run_underlying hu, hsz, ha.ev hzl, ha.ev hzh, hh' kh c .sliceAcap (by omega), hl' kl h .sliceB (by omega)]

/-- What stands at a row's place. -/
abbrev spl (cs : Array Value) (off : Nat) (news : List Value) : Array Value := (cs.toList.take off ++ news ++ cs.toList.drop (off + news.length)).toArray
theorem spl_size {cs : Array Value} {off : Nat} {news : List Value} (h : off + news.length ≤ cs.size) : (spl cs off news).size = cs.size := by
  simp only [spl, List.size_toArray, List.length_append, List.length_take, List.length_drop, Array.length_toList]; omega

theorem spl_two {N : Array Value} {i : Nat} {a : Value} {r : List Value} (h : i + 1 + r.length ≤ N.size) : (spl (spl N i [a]) (i + 1) r).toList.take (i + 1 + r.length) = N.toList.take i ++ a :: r := by
  have hl : N.toList.length = N.size := Array.length_toList
  have e1 : (N.toList.take i ++ [a] ++ N.toList.drop (i + 1)).take (i + 1) = N.toList.take i ++ [a] := List.take_left' (by simp only [List.length_append, List.length_take, List.length_cons, List.length_nil]; omega)
  simp only [spl, List.length_cons, List.length_nil, Nat.zero_add, e1]
  rw [List.take_left' (by simp only [List.length_append, List.length_take, List.length_cons, List.length_nil]; omega)]
  simp
theorem spl_owt {N : Array Value} {i : Nat} {a : Value} {r : List Value} (h : i + 1 + r.length ≤ N.size) : (spl (spl N (i + 1) r) i [a]).toList.take (i + 1 + r.length) = N.toList.take i ++ a :: r := by
  have hl : N.toList.length = N.size := Array.length_toList
  have e0 : N.toList.take (i + 1) ++ r ++ N.toList.drop (i + 1 + r.length) = N.toList.take (i + 1) ++ (r ++ N.toList.drop (i + 1 + r.length)) := List.append_assoc _ _ _
  have e1 : (N.toList.take (i + 1) ++ r ++ N.toList.drop (i + 1 + r.length)).take i = N.toList.take i := by
    rw [e0, List.take_append_of_le_length (by rw [List.length_take]; omega), List.take_take, Nat.min_eq_left (by omega)]
  have e2 : (N.toList.take (i + 1) ++ r ++ N.toList.drop (i + 1 + r.length)).drop (i + 1) = r ++ N.toList.drop (i + 1 + r.length) := by
    rw [e0]; exact List.drop_left' (by rw [List.length_take]; omega)
  simp only [spl, List.length_cons, List.length_nil, Nat.zero_add, e1, e2]
  rw [← List.append_assoc, List.take_left' (by simp only [List.length_append, List.length_take, List.length_cons, List.length_nil]; omega)]
  simp
/-- The first cells of a slice that can be read. -/
theorem run_first {r : Res} {ad : Addr} {news : List Value} {sz k m c : Nat} (hH : Holds r ad news) (hin : In r w) (hl : news.length = k * sz) : (Builtin.firstCells sz k (.slice (some ad) m c)).run P w = .ok news.toArray w :=
  run_firstCells_some w sz k ad m c news hl (fun _ _ hj => hH.cell hin hj)

/-- copy into a row of one's own. -/
theorem RL.copy {t t2 e : TypeId} {sz by_ k m c g off i : Nat} (q : Nat) {src : Value} {news : List Value} {cs : Array Value} {el : TypeId} (hg : wants ops E o = some true) (hd : o.dst = some d) (hb : Nat.blt d n = true)
    (ho : o.op = .call { callee := .builtin .copy, args := #[x, y], argTypes := #[t, t2] }) (ht : slc P t = some (e, sz, by_))
    (hx : ev E x = some (.slice (some ⟨g, off, none⟩) k c)) (hy : ev E y = some src) (hlen : ∀ w', (Builtin.lenOf src).run P w' = .ok m w')
    (hq : Nat.min m k = q) (hnew : (Builtin.firstCells sz q src).run P w = .ok news.toArray w)
    (hG : Good w s os) (hi : os[i]? = some A) (hA : A g = some (.cells cs el (0, 0))) (hfit : off + news.length ≤ cs.size) (hone : ∀ v ∈ news, v.oneCell' = true)
    (h : ∀ w', Good w' s (os.set i (A.put g (.cells (spl cs off news) el (0, 0)))) → Aux w w' → S w' ∧ RL P n ops Q S rest ((d, .int .i64 q) :: E) w') : RL P n ops Q S ((false, o) :: rest) E w := by
  subst hq
  have hf := hG.front i hi
  have hwb := hf.1 g _ hA
  have hst := run_storeCells_at P g off el news 0 cs w hwb (by simpa using hfit) hone
  simp only [Nat.add_zero] at hst
  have hw := hf.write (w' := w.setRow g (spl cs off news)) hA (setRow_heap w g cs _ el (0, 0) hwb) (fun k' _ hk' => setRow_other w g k' _ hk')
  obtain ⟨h2, h3⟩ := h _ (Good.back i hi hw) ⟨rfl, rfl, rfl, by simp⟩
  refine RL.step hg hd hb (fun ac ha => ?_) h2 h3
  obtain ⟨hu, inf, hi', rfl, _⟩ := slc_spec ht
  have hsz : ∀ w : World, (sizeOf e).run P w = .ok inf.size w := fun w => by simp [sizeOf, typeInfo, hi']
  unfold execOp
  simp only [ho]
  simp only [resolve, invoke, builtin, Builtin.copy_, Sem.run_bind, Sem.run_pure, Result.andThen_ok, List.map_toArray, List.map_cons, List.map_nil, ha.ev hx, ha.ev hy, List.getElem?_toArray, List.getElem?_cons_zero, List.getElem?_cons_succ, run_underlying hu, hlen, hsz, hnew, hst, goInt]

/-- clear of a row's part. -/
theorem RL.clear {t e : TypeId} {sz by_ k c g off i : Nat} {z : List Value} {cs : Array Value} {el : TypeId} (hg : wants ops E o = some true) (hd : o.dst = none)
    (ho : o.op = .call { callee := .builtin .clear, args := #[x], argTypes := #[t] }) (ht : slc P t = some (e, sz, by_)) (hz : zer P e = some z)
    (hx : ev E x = some (.slice (some ⟨g, off, none⟩) k c))
    (hG : Good w s os) (hi : os[i]? = some A) (hA : A g = some (.cells cs el (0, 0))) (hfit : off + k * z.length ≤ cs.size) (hone : ∀ v ∈ z, v.oneCell' = true)
    (h : ∀ w', Good w' s (os.set i (A.put g (.cells (spl cs off (Builtin.zeroCells z.toArray k).toList) el (0, 0)))) → Aux w w' → S w' ∧ RL P n ops Q S rest E w') : RL P n ops Q S ((false, o) :: rest) E w := by
  have hf := hG.front i hi
  have hwb := hf.1 g _ hA
  obtain ⟨hu, inf, hi', rfl, _⟩ := slc_spec ht
  have hzl : (Builtin.zeroCells z.toArray k).toList.length = k * z.length := by simp [size_zeroCells]
  have hzo : ∀ v ∈ (Builtin.zeroCells z.toArray k).toList, v.oneCell' = true := fun v hv => by
    simp only [Builtin.zeroCells, Array.toList_map, List.mem_map] at hv
    obtain ⟨j, hj, rfl⟩ := hv
    have hj' : j < k * z.length := by simpa using hj
    have hz0 : 0 < z.length := by
      rcases Nat.eq_zero_or_pos z.length with h | h
      · rw [h, Nat.mul_zero] at hj'; omega
      · exact h
    have hlt : j % z.toArray.size < z.toArray.size := by simpa using Nat.mod_lt _ hz0
    rw [getElem!_pos z.toArray _ hlt]
    exact hone _ (by simp)
  by_cases hk : k = 0
  · subst hk
    have e0 : Builtin.zeroCells z.toArray 0 = #[] := by
      apply Array.eq_empty_of_size_eq_zero
      rw [size_zeroCells]; simp
    have hsame : A.put g (.cells (spl cs off (Builtin.zeroCells z.toArray 0).toList) el (0, 0)) = A := by
      funext b
      by_cases hb : b = g
      · subst hb
        rw [put_same, hA, e0]
        simp [spl]
      · simp [Res.put, hb]
    have hset : os.set i A = os := by
      have hlt := (List.getElem?_eq_some_iff.1 hi)
      obtain ⟨hlt, he⟩ := hlt
      rw [← he]; exact List.set_getElem_self hlt
    obtain ⟨h2, h3⟩ := h w (by rw [hsame, hset]; exact hG) (Aux.refl _)
    refine RL.drop (v := .tuple #[]) hg hd (fun ac ha => ?_) h2 h3
    unfold execOp
    simp only [ho]
    simp [resolve, invoke, builtin, Builtin.clear_, ha.ev hx, run_underlying hu]
  · obtain ⟨k', rfl⟩ : ∃ k', k = k' + 1 := ⟨k - 1, by omega⟩
    have hst := run_storeCells_at P g off el (Builtin.zeroCells z.toArray (k' + 1)).toList 0 cs w hwb (by simp only [Nat.add_zero]; rw [hzl]; exact hfit) hzo
    simp only [Nat.add_zero] at hst
    have hw := hf.write (w' := w.setRow g (spl cs off (Builtin.zeroCells z.toArray (k' + 1)).toList)) hA (setRow_heap w g cs _ el (0, 0) hwb) (fun k' _ hk' => setRow_other w g k' _ hk')
    obtain ⟨h2, h3⟩ := h _ (Good.back i hi hw) ⟨rfl, rfl, rfl, by simp⟩
    refine RL.drop (v := .tuple #[]) hg hd (fun ac ha => ?_) h2 h3
    unfold zer at hz
    cases hzi : inf.zero with
    | none => simp [hi', hzi] at hz
    | some zv =>
      simp only [hi', Option.bind_some, hzi, Option.map_some, Option.some.injEq] at hz
      have hze : zv.cells = z.toArray := by rw [← hz]
      have hzv : (zeroValue e).run P w = .ok zv w := by simp [zeroValue, typeInfo, hi', hzi]
      unfold execOp
      simp only [ho]
      simp only [resolve, invoke, builtin, Builtin.clear_, Sem.run_bind, Sem.run_pure, Result.andThen_ok, List.map_toArray, List.map_cons, List.map_nil, ha.ev hx, List.getElem?_toArray, List.getElem?_cons_zero, run_underlying hu, hzv, hze, hst]

/-- append(x, make([]T, m)...) where there is no room: a new row. -/
theorem RL.appendZ {t t2 e : TypeId} {sz by_ k m c : Nat} {kk : IntKind} {a : Option Addr} {olds z : List Value} (hg : wants ops E o = some true) (hd : o.dst = some d) (hb : Nat.blt d n = true)
    (ho : o.op = .call { callee := .builtin .append, args := #[x, y], argTypes := #[t, t2] }) (ht : slc P t = some (e, sz, by_)) (hz : zer P e = some z) (ht2 : P.underlying t2 = some (.int kk)) (hsz0 : 0 < sz)
    (hx : ev E x = some (.slice a k c)) (hy : ev E y = some (.int kk (m : Nat))) (hold : ∀ w' : World, w'.heap = w.heap → (Builtin.firstCells sz k (.slice a k c)).run P w' = .ok olds.toArray w')
    (hroom : c < k + m) (hm : 0 < m) (hbytes : (k + m) * by_ ≤ 140737488355328) (hby : 0 < by_) (hG : Good w s os)
    (h : ∀ g w' c', k + m ≤ c' → c' ≤ maxLen → Good w' s (Res.one g (.cells (olds.toArray ++ Builtin.zeroCells z.toArray m ++ Builtin.zeroCells z.toArray (c' - (k + m))) e) :: os) → Aux w w' → S w' ∧ RL P n ops Q S rest ((d, .slice (some ⟨g, 0, none⟩) (k + m) c') :: E) w') :
    RL P n ops Q S ((false, o) :: rest) E w := by
  obtain ⟨hu, i, hi, rfl, rfl⟩ := slc_spec ht
  have hk1 : k + m ≤ (k + m) * i.bytes := Nat.le_mul_of_pos_right _ hby
  have h63 : k + m ≤ 9223372036854775807 := by omega
  have hmax : k + m ≤ maxLen := by simp only [maxLen]; omega
  have hn : ¬ (k + m ≤ c) := by omega
  have h63' : ¬ (9223372036854775807 < ((k : Int) + (m : Int))) := by omega
  have hfit := growslice_fits (bytes := i.bytes) hroom hbytes
  have h48' : ¬ (281474976710656 < Builtin.nextslicecap (k + m) c * i.bytes) := by omega
  have hw : IntKind.i64.wrap (m : Int) = m := by rw [IntKind.wrap_i64]; omega
  have hm0 : ¬ ((m : Int) < 0) := by omega
  have hmb : m * i.bytes ≤ (k + m) * i.bytes := Nat.mul_le_mul_right _ (by omega)
  have hmb1 : ¬ (281474976710656 < (m : Int) * (i.bytes : Int)) := by
    have : ((m : Int) * (i.bytes : Int)) = ((m * i.bytes : Nat) : Int) := by simp
    rw [this]; omega
  have hmz : ¬ (m * i.size = 0) := by
    have : 0 < m * i.size := Nat.mul_pos hm hsz0
    omega
  have ho' := hold w.drew rfl
  unfold zer at hz
  simp only [hi, Option.bind_some] at hz
  cases hzi : i.zero with
  | none => simp [hzi] at hz
  | some zv =>
    simp only [hzi, Option.map_some, Option.some.injEq] at hz
    have hze : zv.cells = z.toArray := by rw [← hz]
    obtain ⟨h2, h3⟩ := h w.heap.size (w.drew.alloc (.cells (olds.toArray ++ Builtin.zeroCells z.toArray m ++ Builtin.zeroCells z.toArray (grownCap w (k + m) c e - (k + m))) e)) (grownCap w (k + m) c e) (grownCap_ge w (k + m) c e) (grownCap_le_maxLen w _ c e hmax) (hG.drew.alloc _) ((Aux.drew w).trans (Aux.alloc _ _))
    refine RL.step hg hd hb (fun ac ha => ?_) h2 h3
    have hrun : (Builtin.append_ #[t, t2] o.type #[.slice a k c, .int kk (m : Nat)]).run P w = .ok (.slice (some ⟨w.heap.size, 0, none⟩) (k + m) (grownCap w (k + m) c e)) (w.drew.alloc (.cells (olds.toArray ++ Builtin.zeroCells z.toArray m ++ Builtin.zeroCells z.toArray (grownCap w (k + m) c e - (k + m))) e)) := by
      simp [Builtin.append_, run_underlying hu, run_underlying ht2, sizeOf, typeInfo, zeroValue, hi, hzi, asInt, asIntOf, hw, hm0, hmb1, hmz, hn, h63', h48', Question.forced, ho', newRow, grownCap, hze]
    unfold execOp
    simp only [ho]
    simp only [resolve, invoke, builtin, Sem.run_bind, Sem.run_pure, Result.andThen_ok, List.map_toArray, List.map_cons, List.map_nil, ha.ev hx, ha.ev hy, hrun]

theorem add0 (a : Option Addr) (sz : Nat) : a.map (·.add (0 * sz)) = a := by
  cases a with
  | none => rfl
  | some ad => simp [Addr.add]
theorem addLit (g l : Nat) : (⟨g, 0, none⟩ : Addr).add l = ⟨g, l, none⟩ := by unfold Addr.add; split <;> simp_all
/-- x[:h], by value. -/
theorem RL.cutHi {t e : TypeId} {sz by_ m c : Nat} {k : IntKind} {a : Option Addr} {i : Int} (h : Nat) (hg : wants ops E o = some true) (hd : o.dst = some d) (hb : Nat.blt d n = true)
    (ho : o.op = .slice t x none (some y) none) (ht : slc P t = some (e, sz, by_)) (hx : ev E x = some (.slice a m c)) (hy : ev E y = some (.int k i)) (hi : i = (h : Nat)) (h2 : h ≤ c)
    (hK : RL P n ops Q S rest ((d, .slice a h c) :: E) w) : RL P n ops Q S ((T, o) :: rest) E w := by
  subst hi
  refine RL.cut 0 h hg hd hb ho ht hx (.inl ⟨rfl, rfl⟩) (.inr ⟨_, _, rfl, hy⟩) (Nat.zero_le _) h2 ?_
  rw [add0, if_same]
  exact hK
where if_same {a : Option Addr} {p : Prop} [Decidable p] : (if p then a else a) = a := by split <;> rfl
/-- x[l:] of a row, not all of its capacity. -/
theorem RL.cutLo {t e : TypeId} {sz by_ m c g off : Nat} {k : IntKind} {i : Int} (l : Nat) (hg : wants ops E o = some true) (hd : o.dst = some d) (hb : Nat.blt d n = true)
    (ho : o.op = .slice t x (some y) none none) (ht : slc P t = some (e, sz, by_)) (hx : ev E x = some (.slice (some ⟨g, off, none⟩) m c)) (hy : ev E y = some (.int k i)) (hi : i = (l : Nat)) (h1 : l ≤ m) (h2 : l < c) (h3 : m ≤ c)
    (hK : RL P n ops Q S rest ((d, .slice (some ⟨g, off + l * sz, none⟩) (m - l) (c - l)) :: E) w) : RL P n ops Q S ((T, o) :: rest) E w := by
  subst hi
  refine RL.cut l m hg hd hb ho ht hx (.inr ⟨_, _, rfl, hy⟩) (.inl ⟨rfl, rfl⟩) h1 h3 ?_
  rw [if_neg (by omega)]
  have e : (some (⟨g, off, none⟩ : Addr)).map (·.add (l * sz)) = some ⟨g, off + l * sz, none⟩ := by
    simp only [Option.map_some, Addr.add]
    split
    · rename_i h0; rw [h0]; rfl
    · rfl
  rw [e]
  exact hK
end

section
variable {α : Type} {R : Res → List Value → α → Prop} {sz c g : Nat} {el : TypeId} {s A : Res} {xs ys : List α} {cs ds : Array Value}
/-- Of a row of one's own the first ones. -/
theorem Own.front {a : Option Addr} (h : Own R sz el s A a c (xs ++ ys)) : Own R sz el s A a c xs := by
  rcases h with ⟨h1, h2, h3⟩ | ⟨g, cs, h1, h2, h3, h4, h5, h6⟩
  · exact .inl ⟨h1, h2, (List.append_eq_nil_iff.1 h3).1⟩
  · refine .inr ⟨g, cs, h1, h2, by simp only [List.length_append] at h3; omega, h4, h5, ?_⟩
    have := (Chunks.part h6).1
    rw [List.take_take, List.length_append, Nat.min_eq_left (Nat.mul_le_mul_right _ (by omega))] at this
    exact this
/-- A row of one's own, of which nothing is changed but what is behind its elements. -/
theorem Own.tail (h : Own R sz el s A (some ⟨g, 0, none⟩) c xs) (hA : A g = some (.cells cs el (0, 0))) (hs : ds.size = cs.size) (ht : ds.toList.take (xs.length * sz) = cs.toList.take (xs.length * sz)) :
    Own R sz el s (A.put g (.cells ds el (0, 0))) (some ⟨g, 0, none⟩) c xs := by
  rcases h with ⟨h1, _⟩ | ⟨g', cs', h1, h2, h3, h4, h5, h6⟩
  · cases h1
  · cases h1
    rw [hA] at h2
    cases h2
    exact .inr ⟨g, ds, rfl, put_same _ _ _, h3, h4, by rw [hs, h5], by rw [ht]; exact h6⟩
end
end Go.Lw
