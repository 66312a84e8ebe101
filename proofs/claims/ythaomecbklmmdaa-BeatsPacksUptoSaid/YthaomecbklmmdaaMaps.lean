/-
  The walk engine: maps with int keys that the code itself has made: what their block holds is a list of keys and values.
-/
import Derived.Test.YthaomecbklmmdaaRules6
import Derived.Maps.Keyed
namespace Go.Lw

/-- Block g of the piece A is a map that holds these, keys all different. -/
def MapAt (A : Res) (g : Nat) (l : List (Int × Value)) : Prop :=
  ∃ es c, A g = some (.map es c) ∧ es.toList.map (fun e => (e.key, e.val)) = l.map (fun p => (Value.int .i64 p.1, p.2)) ∧ (l.map (·.1)).Nodup ∧ ∀ p ∈ l, rng .i64 p.1
theorem MapAt.nil (g : Nat) : MapAt (Res.one g (.map #[] 0)) g [] := ⟨#[], 0, if_pos rfl, rfl, List.nodup_nil, fun _ h => by cases h⟩

theorem key_rng {a : Int} (h : rng .i64 a) : (Lit.int .i64 a).wf = true := by
  simp only [rng] at h
  simp only [Lit.wf]
  have h1 : IntKind.i64.min = -9223372036854775808 := by decide
  have h2 : IntKind.i64.max = 9223372036854775807 := by decide
  simp [h1, h2]
  omega

section
variable {P : Program} {n : Nat} {ops : Array Oper} {Q : Exit → Act → World → Prop} {S : World → Prop} {rest : List (Bool × Oper)} {E : Env} {w : World} {o : Oper} {d : Nat} {v : Value} {x y z : Operand} {T : Bool} {s A : Res} {os : List Res}

theorem map_find {kt : TypeId} {es : Array MapEntry} {l : List (Int × Value)} {k : Int} (hk : P.underlying kt = some (.int .i64)) (he : es.toList.map (fun e => (e.key, e.val)) = l.map (fun p => (Value.int .i64 p.1, p.2))) (hn : (l.map (·.1)).Nodup)
    (hr : ∀ p ∈ l, rng .i64 p.1) (hkr : rng .i64 k) :
    (∀ v, (k, v) ∈ l → ∃ j, (Instr.findKey kt (.int .i64 k) es.toList).run P w = .ok (some (j, v)) w) ∧ ((∀ p ∈ l, p.1 ≠ k) → (Instr.findKey kt (.int .i64 k) es.toList).run P w = .ok none w) := by
  have K := Maps.int_keyed hk
  have hkey := Maps.keyOf_int_mk hk (key_rng hkr)
  have hin : ∀ e ∈ es.toList, ∃ p ∈ l, (e.key, e.val) = (Value.int .i64 p.1, p.2) := fun e h => by
    have h1 : (e.key, e.val) ∈ es.toList.map (fun e => (e.key, e.val)) := List.mem_map.2 ⟨e, h, rfl⟩
    rw [he] at h1
    obtain ⟨p, hp, e⟩ := List.mem_map.1 h1
    exact ⟨p, hp, e.symm⟩
  have hout : ∀ p ∈ l, ∃ e ∈ es.toList, (e.key, e.val) = (Value.int .i64 p.1, p.2) := fun p h => by
    have h1 : (Value.int .i64 p.1, p.2) ∈ l.map (fun p => (Value.int .i64 p.1, p.2)) := List.mem_map.2 ⟨p, h, rfl⟩
    rw [← he] at h1
    obtain ⟨e, hp, e'⟩ := List.mem_map.1 h1
    exact ⟨e, hp, e'⟩
  have hks : ∀ e ∈ es.toList, ∃ l, keyOf P kt e.key = some l := fun e h => by
    obtain ⟨p, hp, e1⟩ := hin e h
    rw [(Prod.mk.inj e1).1]
    exact ⟨_, Maps.keyOf_int_mk hk (key_rng (hr p hp))⟩
  rcases K.find w hkey es.toList hks with ⟨h1, h2⟩ | ⟨j, e0, h1, h2, h3⟩
  · refine ⟨fun v hv => ?_, fun _ => h1⟩
    obtain ⟨e, hm, e1⟩ := hout _ hv
    exact absurd (Prod.mk.inj e1).1 (h2 e hm)
  · obtain ⟨p, hp, e1⟩ := hin e0 (List.mem_of_getElem? h2)
    obtain ⟨e2, e3⟩ := Prod.mk.inj e1
    rw [h3] at e2
    have hpk : k = p.1 := by injection e2
    refine ⟨fun v hv => ⟨j, ?_⟩, fun h => absurd hpk.symm (h p hp)⟩
    have hpv : p.2 = v := by
      obtain ⟨i, hi, ei⟩ := List.getElem_of_mem hp
      obtain ⟨i', hi', ei'⟩ := List.getElem_of_mem hv
      have hii : i = i' := by
        refine (List.getElem_inj (h₀ := by simpa using hi) (h₁ := by simpa using hi') hn).1 ?_
        simp only [List.getElem_map, ei, ei']
        exact hpk.symm
      subst hii
      rw [ei] at ei'
      rw [ei']
    rw [h1, e3, hpv]

/-- A map is made. -/
theorem RL.makeMap {t : TypeId} (hg : wants ops E o = some true) (hd : o.dst = some d) (hb : Nat.blt d n = true) (ho : o.op = .makeMap t none) (hG : Good w s os)
    (h : ∀ b w', Good w' s (Res.one b (.map #[] 0) :: os) → Aux w w' → S w' ∧ RL P n ops Q S rest ((d, .map (some b)) :: E) w') : RL P n ops Q S ((false, o) :: rest) E w := by
  obtain ⟨h1, h2⟩ := h w.heap.size _ (hG.alloc (.map #[] 0)) (Aux.alloc w _)
  refine RL.step hg hd hb (fun ac ha => ?_) h1 h2
  unfold execOp
  simp only [ho]
  have hrun : (Instr.makeMap t none).run P w = .ok (.map (some w.heap.size)) (w.alloc (.map #[] 0)) := rfl
  simp [hrun]

/-- A key that is there. -/
theorem RL.look {t kt et : TypeId} {g : Nat} {k : Int} {u : Value} {l : List (Int × Value)} {c : Bool} (hg : wants ops E o = some true) (hd : o.dst = some d) (hb : Nat.blt d n = true) (ho : o.op = .lookup t x y c)
    (ht : P.underlying t = some (.map kt et)) (hk : P.underlying kt = some (.int .i64)) (hx : ev E x = some (.map (some g))) (hy : ev E y = some (.int .i64 k)) (hM : MapAt A g l) (hA : In A w) (hm : (k, u) ∈ l)
    (h : RL P n ops Q S rest ((d, if c then .tuple #[u, .bool true] else u) :: E) w) : RL P n ops Q S ((false, o) :: rest) E w := by
  obtain ⟨es, cl, hb', he, hn, hr⟩ := hM
  have hw := hA g _ hb'
  obtain ⟨j, hf⟩ := (map_find (w := w) hk he hn hr (hr _ hm)).1 u hm
  have hkey := Maps.keyOf_int_mk hk (key_rng (hr _ hm))
  refine fun hS => RL.step hg hd hb (fun ac ha => ?_) hS h hS
  unfold execOp
  simp only [ho, ha.ev hx, ha.ev hy]
  cases c <;> simp [Instr.lookup, run_underlying ht, MapKept.run_getObj_map hw, (Maps.int_keyed hk).check w _ hkey, hf, Result.andThen]

/-- A key that is not there. -/
theorem RL.lookNo {t kt et : TypeId} {g : Nat} {k : Int} {u : Value} {l : List (Int × Value)} {c : Bool} (hg : wants ops E o = some true) (hd : o.dst = some d) (hb : Nat.blt d n = true) (ho : o.op = .lookup t x y c)
    (ht : P.underlying t = some (.map kt et)) (hk : P.underlying kt = some (.int .i64)) (hz : ∀ w, (zeroValue et).run P w = .ok u w) (hx : ev E x = some (.map (some g))) (hy : ev E y = some (.int .i64 k)) (hM : MapAt A g l) (hA : In A w) (hkr : rng .i64 k) (hm : ∀ p ∈ l, p.1 ≠ k)
    (h : RL P n ops Q S rest ((d, if c then .tuple #[u, .bool false] else u) :: E) w) : RL P n ops Q S ((false, o) :: rest) E w := by
  obtain ⟨es, cl, hb', he, hn, hr⟩ := hM
  have hw := hA g _ hb'
  have hf := (map_find (w := w) hk he hn hr hkr).2 hm
  have hkey := Maps.keyOf_int_mk hk (key_rng hkr)
  refine fun hS => RL.step hg hd hb (fun ac ha => ?_) hS h hS
  unfold execOp
  simp only [ho, ha.ev hx, ha.ev hy]
  cases c <;> simp [Instr.lookup, run_underlying ht, MapKept.run_getObj_map hw, (Maps.int_keyed hk).check w _ hkey, hf, hz, Result.andThen]

theorem run_mapNew {t kt et : TypeId} {g : Nat} {k : Int} {u : Value} {l : List (Int × Value)} (ht : P.underlying t = some (.map kt et)) (hk : P.underlying kt = some (.int .i64)) (hM : MapAt A g l) (hA : In A w) (hkr : rng .i64 k) (hm : ∀ p ∈ l, p.1 ≠ k) :
    ∃ x x' : Obj, A g = some x ∧ (Instr.mapUpdate t (.map (some g)) (.int .i64 k) u).run P w = .ok () { w with heap := w.heap.setIfInBounds g x' } ∧ MapAt (A.put g x') g (l ++ [(k, u)]) := by
  obtain ⟨es, cl, hb', he, hn, hr⟩ := hM
  have hw := hA g _ hb'
  have hf := (map_find (w := w) hk he hn hr hkr).2 hm
  have hkey := Maps.keyOf_int_mk hk (key_rng hkr)
  refine ⟨_, .map (es.push ⟨.int .i64 k, u, cl⟩) (cl + 1), hb', ?_, ?_⟩
  · simp [Instr.mapUpdate, run_underlying ht, MapKept.run_getObj_map hw, (Maps.int_keyed hk).check w _ hkey, hf, MapKept.run_setObj_map _ hw, Result.andThen]
  · refine ⟨es.push ⟨.int .i64 k, u, cl⟩, cl + 1, by simp [Res.put], by simp [he], ?_, fun p hp => ?_⟩
    · rw [List.map_append, List.nodup_append]
      refine ⟨hn, by simp, fun a ha b hb' => ?_⟩
      obtain ⟨p, hp, rfl⟩ := List.mem_map.1 ha
      simp only [List.map_cons, List.map_nil, List.mem_singleton] at hb'
      subst hb'
      exact hm p hp
    · rcases List.mem_append.1 hp with h | h
      · exact hr p h
      · rw [List.mem_singleton.1 h]; exact hkr

/-- A new key is written. -/
theorem RL.mapNew {t kt et : TypeId} {g i : Nat} {k : Int} {u : Value} {l : List (Int × Value)} (hg : wants ops E o = some true) (hd : o.dst = none) (ho : o.op = .mapUpdate t x y z ∨ o.op = .insert t x y z)
    (ht : P.underlying t = some (.map kt et)) (hk : P.underlying kt = some (.int .i64)) (hx : ev E x = some (.map (some g))) (hy : ev E y = some (.int .i64 k)) (hz : ev E z = some u) (hG : Good w s os) (hi : os[i]? = some A) (hM : MapAt A g l) (hkr : rng .i64 k) (hm : ∀ p ∈ l, p.1 ≠ k)
    (h : ∀ A' w', Good w' s (os.set i A') → Aux w w' → MapAt A' g (l ++ [(k, u)]) → (∀ b, b ≠ g → A' b = A b) → S w' ∧ RL P n ops Q S rest E w') : RL P n ops Q S ((false, o) :: rest) E w := by
  have hf := hG.front i hi
  obtain ⟨q, q', hq, hrun, hM'⟩ := run_mapNew (P := P) (w := w) (u := u) ht hk hM hf.1 hkr hm
  have hlt : g < w.heap.size := hf.1.lt (by rw [hq]; simp)
  have hw := hf.write (w' := { w with heap := w.heap.setIfInBounds g q' }) (y := q') hq (by simp [hlt]) (fun k' _ hk' => by simp [Array.getElem?_setIfInBounds, Ne.symm hk'])
  obtain ⟨h2, h3⟩ := h _ _ (Good.back i hi hw) ⟨rfl, rfl, rfl, by simp⟩ hM' (fun b hb => by simp [Res.put, hb])
  refine RL.skip hg hd (fun ac ha => ?_) h2 h3
  unfold execOp
  rcases ho with ho | ho <;> simp only [ho, ha.ev hx, ha.ev hy, ha.ev hz] <;> simp [hrun]
end
end Go.Lw
